/- The contract of the timer's Store. Its conditions: those that its statement shows. -/
import Derived.Test.YtfjkfigjenalgaaN6
import Derived.RegionCalls
namespace Go.Proofs.Ytfjkfigjenalgaa
open Go.RowKit
set_option linter.unusedVariables false

section
variable {b : Nat} {s : CS} {w : World}

theorem store_align (hc : HC w b s) (off v : Int) (h0 : 0 ≤ off) (h1 : off ≤ 4294967295) (h4 : off % 4 ≠ 0) :
    Calls Try.prog 20 #[.pointer (some ⟨b, 0, none⟩), U off, U v] w fun e w' => e = .returned (I 11) ∧ w = w' := by
  have H4 := Lib.hid h4; clear h4
  go_enter Try.func20, Try.ntmps20
  go_wp2_with (go_at_call 46; refine (place_align _ rfl _ h0 h1 H4.out _).mono ?_; rintro e w' ⟨rfl, rfl⟩)
  go_ret
  exact ⟨rfl, rfl⟩

theorem store_bus (hc : HC w b s) (off v : Int) (h0 : 0 ≤ off) (h1 : off ≤ 4294967295) (h4 : off % 4 = 0) (h16 : 16 ≤ off) :
    Calls Try.prog 20 #[.pointer (some ⟨b, 0, none⟩), U off, U v] w fun e w' => e = .returned (I 10) ∧ w = w' := by
  have H4 := Lib.hid h4; clear h4
  go_enter Try.func20, Try.ntmps20
  go_wp2_with (go_at_call 46; refine (place_bus _ rfl _ h0 h1 H4.out h16 _).mono ?_; rintro e w' ⟨rfl, rfl⟩)
  go_ret
  exact ⟨rfl, rfl⟩

theorem store_4 (hc : HC w b s) (v : Int) :
    Calls Try.prog 20 #[.pointer (some ⟨b, 0, none⟩), U 4, U v] w fun e w' => e = .returned (I 12) ∧ w = w' := by
  go_enter Try.func20, Try.ntmps20
  go_wp2_with (go_at_call 46; refine (place_ok _ rfl _ (by decide) _).mono ?_; rintro e w' ⟨rfl, rfl⟩)
  go_ret
  exact ⟨rfl, rfl⟩

theorem store_0 (hc : HC w b s) (v : Int) :
    Calls Try.prog 20 #[.pointer (some ⟨b, 0, none⟩), U 0, U v] w fun e w' => e = .returned (I 0) ∧ Stored w w' b { s with load := v } := by
  have c0 := hc.cell 0 rfl
  have f0 := hc.free 0
  go_enter Try.func20, Try.ntmps20
  go_wp2_with (go_at_call 46; refine (place_ok _ rfl _ (by decide) _).mono ?_; rintro e w' ⟨rfl, rfl⟩)
  go_ret
  exact ⟨rfl, Stored.of_set 0 _ (Below.refl _ _) hc rfl⟩

theorem store_12 (hc : HC w b s) (v : Int) (h0 : 0 ≤ v) (h1 : v ≤ 4294967295) :
    Calls Try.prog 20 #[.pointer (some ⟨b, 0, none⟩), U 12, U v] w fun e w' => e = .returned (I 0) ∧ Stored w w' b { s with st := if v % 2 = 1 then false else s.st } := by
  have c3 := hc.cell 3 rfl
  have f3 := hc.free 3
  have e1 := and_1 v h0 h1
  have e2 := andNot_bit (bI s.st) (v % 2) (bI_bd s.st).1 (bI_bd s.st).2 (by omega) (by omega)
  go_enter Try.func20, Try.ntmps20
  go_wp2_with (go_at_call 46; refine (place_ok _ rfl _ (by decide) _).mono ?_; rintro e w' ⟨rfl, rfl⟩)
  go_still_tail 13, (by kernel_rfl)
  go_wp2_with fail
  · go_ret
    exact ⟨rfl, (Stored.of_set (s' := { s with st := false }) 3 (U 0) (Below.refl _ _) hc rfl).then (Below.refl _ _).drew⟩
  · go_ret
    exact ⟨rfl, (Stored.of_set (s' := s) 3 (U (bI s.st)) (Below.refl _ _) hc rfl).then (Below.refl _ _).drew⟩

/-- What a store to control leaves, ahead of the load of the value. -/
def CS.ctlSet (s : CS) (v : Int) : CS := ⟨s.load, s.value, v % 2 == 1, v / 2 % 2 == 1, v / 4 % 2 == 1, v / 256 % 256, 0, s.st⟩
theorem CS.ctlSet_ok (s : CS) (h : s.Ok) (v : Int) : (s.ctlSet v).Ok := ⟨h.l0, h.l1, h.v0, h.v1, by show 0 ≤ v / 256 % 256; omega, by show v / 256 % 256 ≤ 255; omega, by show (0 : Int) ≤ 0; omega, by show (0 : Int) ≤ v / 256 % 256; omega⟩
theorem bI_mod (n : Int) : bI (n % 2 == 1) = n % 2 := by
  unfold bI
  by_cases h : n % 2 = 1
  · simp [h]
  · have : n % 2 = 0 := by omega
    simp [this]
theorem CS.ctlSet_ctl (s : CS) (v : Int) : (s.ctlSet v).ctl = v % 8 + v / 256 % 256 * 256 := by
  unfold CS.ctl CS.ctlSet
  simp only [bI_mod]
  omega
theorem CS.ctlSet_cells (s : CS) (v : Int) : (s.ctlSet v).cells = #[U s.load, U s.value, U (v % 8 + v / 256 % 256 * 256), U (bI s.st), U 0] := by
  have := s.ctlSet_ctl v
  show #[U s.load, U s.value, U (s.ctlSet v).ctl, U (bI s.st), U 0] = _
  rw [this]

set_option maxHeartbeats 1000000 in
theorem store_8E (h : s.Ok) (hc : HC w b s) (v : Int) (h0 : 0 ≤ v) (h1 : v ≤ 4294967295) (E F : Bool) (hE : Hid ((v % 2 == 1) = E)) (hF : Hid (s.en = F)) :
    Calls Try.prog 20 #[.pointer (some ⟨b, 0, none⟩), U 8, U v] w fun e w' => e = .returned (I 0) ∧ Stored w w' b (if E && !F then { s.ctlSet v with value := s.load } else s.ctlSet v) := by
  have e0 : bits .or .u32 7 65280 = 65287 := by decide
  have e1 := and_65287 v h0 h1
  go_enter Try.func20, Try.ntmps20
  go_wp2_with (first | (go_at_call 46; refine (place_ok _ rfl _ (by decide) _).mono ?_; rintro e w' ⟨rfl, rfl⟩) | (go_at_call 21; refine (runs_any h hc).mono ?_; rintro e w2 ⟨he2, hb2⟩; rw [hF.out] at he2; subst he2))
  have hc2 : HC w2 b s := hc.below hb2 hc.lt
  have c2 := hc2.cell 2 rfl
  have f2 := hc2.free 2
  have c4 := hc2.cell 4 rfl
  have f4 := hc2.free 4
  go_region_held3 (fun _ => True) (trivial) (first | (go_at_call 47; refine (mask_8 _).mono ?_; rintro e w' ⟨rfl, rfl⟩))
  go_wp2_with ((go_at_call 21; fail))
  have hS2 : Stored w ((w2.setCell ⟨b, 2, none⟩ (U (v % 8 + v / 256 % 256 * 256))).setCell ⟨b, 4, none⟩ (U 0)).drew b (s.ctlSet v) := by
    have h1 : Blk (w2.setCell ⟨b, 2, none⟩ (U (v % 8 + v / 256 % 256 * 256))) b #[U s.load, U s.value, U (v % 8 + v / 256 % 256 * 256), U (bI s.st), U s.phase] 67 := hc2.set 2 _
    have h2 : Blk ((w2.setCell ⟨b, 2, none⟩ (U (v % 8 + v / 256 % 256 * 256))).setCell ⟨b, 4, none⟩ (U 0)) b (s.ctlSet v).cells 67 := by rw [CS.ctlSet_cells]; exact h1.set 4 _
    have hB := ((hb2.mono (Nat.zero_le _)).setCell (p := ⟨b, 2, none⟩) (Nat.zero_le _) (U (v % 8 + v / 256 % 256 * 256))).setCell (p := ⟨b, 4, none⟩) (Nat.zero_le _) (U 0)
    refine ⟨h2, hB.os, hB.tape, hB.output, hB.size, fun k hk hne => ?_⟩
    exact ((Below.heap_setCell _ ⟨b, 4, none⟩ _ k hne).trans (Below.heap_setCell _ ⟨b, 2, none⟩ _ k hne)).trans (hb2.block k hk)
  clear c2 f2 c4 f4 hc2
  generalize ((w2.setCell ⟨b, 2, none⟩ (U (v % 8 + v / 256 % 256 * 256))).setCell ⟨b, 4, none⟩ (U 0)).drew = w3 at *
  have hok2 := s.ctlSet_ok h v
  refine (runs_any hok2 hS2.hc).mono ?_
  rintro e w4 ⟨he4, hb4⟩
  rw [show (s.ctlSet v).en = (v % 2 == 1) from rfl, hE.out] at he4
  subst he4
  have hS4 := hS2.then hb4
  have q0 : w4.cell? ⟨b, 0, none⟩ = some (U s.load) := hS4.hc.cell 0 rfl
  have q1 : w4.cell? ⟨b, 1, none⟩ = some (U s.value) := hS4.hc.cell 1 rfl
  have k1 := hS4.hc.free 1
  clear e0 e1 hS2 hb4 hb2
  cases E <;> cases F
  · go_wp2_with fail
    go_ret
    exact ⟨rfl, hS4⟩
  · go_wp2_with fail
    go_ret
    exact ⟨rfl, hS4⟩
  · go_wp2_with fail
    go_still_tail 11, (by kernel_rfl)
    go_wp2
    go_ret
    refine ⟨rfl, ((hS4.then (Below.refl _ _).drew).set 1 _ ?_)⟩
    rfl
  · go_wp2_with fail
    go_ret
    exact ⟨rfl, hS4⟩

theorem store_8 (h : s.Ok) (hc : HC w b s) (v : Int) (h0 : 0 ≤ v) (h1 : v ≤ 4294967295) :
    Calls Try.prog 20 #[.pointer (some ⟨b, 0, none⟩), U 8, U v] w fun e w' => e = .returned (I 0) ∧ Stored w w' b ⟨s.load, if v % 2 == 1 && !s.en then s.load else s.value, v % 2 == 1, v / 2 % 2 == 1, v / 4 % 2 == 1, v / 256 % 256, 0, s.st⟩ :=
  (store_8E h hc v h0 h1 _ _ (Lib.hid rfl) (Lib.hid rfl)).mono fun e w' ⟨h1, h2⟩ => ⟨h1, by
    have e : (if (v % 2 == 1) && !s.en then { s.ctlSet v with value := s.load } else s.ctlSet v) = (⟨s.load, if v % 2 == 1 && !s.en then s.load else s.value, v % 2 == 1, v / 2 % 2 == 1, v / 4 % 2 == 1, v / 256 % 256, 0, s.st⟩ : CS) := by
      unfold CS.ctlSet; split <;> rfl
    rw [e] at h2; exact h2⟩

/-- Store, whatever the offset. -/
theorem store_any (h : s.Ok) (hc : HC w b s) (off v : Int) (h0 : 0 ≤ off) (h1 : off ≤ 4294967295) (v0 : 0 ≤ v) (v1 : v ≤ 4294967295) :
    Calls Try.prog 20 #[.pointer (some ⟨b, 0, none⟩), U off, U v] w fun e w' => e = .returned (I (s.storeB off v).2) ∧ Stored w w' b (s.storeB off v).1 := by
  have same : ∀ {r : Int}, (Calls Try.prog 20 #[.pointer (some ⟨b, 0, none⟩), U off, U v] w fun e w' => e = .returned (I r) ∧ w = w') → Calls Try.prog 20 #[.pointer (some ⟨b, 0, none⟩), U off, U v] w fun e w' => e = .returned (I r) ∧ Stored w w' b s :=
    fun h => h.mono fun _ _ ⟨h1, h2⟩ => ⟨h1, h2 ▸ Stored.of_below (Below.refl _ _) hc⟩
  unfold CS.storeB
  by_cases h4 : off % 4 ≠ 0
  · rw [if_pos h4]; exact same (store_align hc off v h0 h1 h4)
  · rw [if_neg h4]
    by_cases e0 : off = 0
    · subst e0; rw [if_pos rfl]; exact store_0 hc v
    · rw [if_neg e0]
      by_cases e4 : off = 4
      · subst e4; rw [if_pos rfl]; exact same (store_4 hc v)
      · rw [if_neg e4]
        by_cases e8 : off = 8
        · subst e8; rw [if_pos rfl]; exact store_8 h hc v v0 v1
        · rw [if_neg e8]
          by_cases e12 : off = 12
          · subst e12; rw [if_pos rfl]; exact store_12 hc v v0 v1
          · rw [if_neg e12]; exact same (store_bus hc off v h0 h1 (by omega) (by omega))
end
end Go.Proofs.Ytfjkfigjenalgaa
