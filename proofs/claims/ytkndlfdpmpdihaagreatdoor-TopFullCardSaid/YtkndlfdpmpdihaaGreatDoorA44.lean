/- The board that the service stands on: what the interface asks. A new port: its gaps are copied. A new service and all that it stands on. A new service: New, Made, made. The tables, read out of what is listed for TopFull. A new service, as the laws make it. made: a service and a feeder. What TopFull's loop asks of made. A list of numbers, read out of the argument. Conditions: those that each statement shows. -/
import Derived.Test.YtkndlfdpmpdihaaGreatDoorA43
import Derived.Test.YtkndlfdpmpdihaaGreatDoorA18
import Derived.Test.YtkndlfdpmpdihaaGreatDoorA19
import Derived.ArgAppend
import Derived.Test.YtkndlfdpmpdihaaGreatDoorA20
import Derived.Test.YtkndlfdpmpdihaaGreatDoorRows
import Derived.Test.YtkndlfdpmpdihaaGreatDoorA38
import Derived.Deep.Slices
import Derived.ChangeArms
import Derived.ProofKit
import Derived.LaidMore
import Derived.Lib.LaidTab
namespace Go.Proofs.YtkndlfdpmpdihaaGreatDoor
open Go.RowKit Go.Ev Go.Mv
set_option linter.unusedVariables false
set_option linter.unusedSimpArgs false
set_option maxRecDepth 100000
theorem tabs_tch {X : Nat → Prop} {w w' : World} (h : Tabs w) (ht : Tch X w w') (hx : ∀ k, X k → 8 ≤ k) : Tabs w' := by
  obtain ⟨h8, ⟨e, f, h1⟩, ⟨e2, f2, h2⟩⟩ := h
  exact ⟨Nat.le_trans h8 ht.size, ⟨e, f, (ht.block 0 (by omega) (fun h => by have := hx 0 h; omega)).trans h1⟩, ⟨e2, f2, (ht.block 2 (by omega) (fun h => by have := hx 2 h; omega)).trans h2⟩⟩
/-- The board, the port and the trigger in numbers; left: how many accesses more are told of. -/
structure AS where
  s : BT
  made : Nat
  sp : Int
  am : Nat
  left : Nat
  amlt : am < 18446744073709551616
structure DeskAt (Q : QB) (hb : Nat) (a : AS) (w : World) : Prop where
  shot : ShotAt Q hb ⟨a.s, a.made, a.sp⟩ a.am w
  made : a.made + a.left < 4611686018427387904
  time : a.s.time + a.left * 4294967296 < 4611686018427387904
  tabs : Tabs w
section
variable {Q : QB} {hb : Nat} {a : AS} {w w' : World}
def DF (Q : QB) (hb : Nat) : Nat → Prop := fun r => Q.ft r ∨ r = hb
theorem DeskAt.hi (h : DeskAt Q hb a w) : ∀ k, DF Q hb k → 8 ≤ k := by
  rintro k ((hk | rfl | ⟨hn, rfl⟩) | rfl)
  · exact h.shot.port.board.hi k hk
  · exact h.shot.port.hi
  · exact (h.shot.port.outg hn).2.2
  · exact h.shot.hi
theorem DeskAt.lt (h : DeskAt Q hb a w) : ∀ k, DF Q hb k → k < w.heap.size := by
  rintro k (hk | rfl)
  · exact h.shot.port.lt k hk
  · exact h.shot.blk.lt
theorem DeskAt.tch (h : DeskAt Q hb a w) {X : Nat → Prop} (ht : Tch X w w') (hx : ∀ k, X k → ¬ DF Q hb k ∧ 8 ≤ k) : DeskAt Q hb a w' :=
  ⟨h.shot.tch ht hx, h.made, h.time, tabs_tch h.tabs ht (fun k e => (hx k e).2)⟩
theorem DeskAt.below (h : DeskAt Q hb a w) (ht : Below w.heap.size w w') : DeskAt Q hb a w' := h.tch (X := fun _ => False) (Tch.of_below ht) (fun k e => e.elim)
theorem DeskAt.boardT (h : DeskAt Q hb a w) {s' : BT} (ht : Tch (FT (ksB Q.b)) w w') (hb' : BoardAt Q.b s' w') (hs : s'.time ≤ a.s.time) : DeskAt Q hb { a with s := s' } w' := by
  have h1 := h.time
  exact ⟨h.shot.portT (ht.mono fun r hr => .inl hr) (h.shot.port.boardT ht hb'), h.made, by show s'.time + a.left * 4294967296 < _; omega, tabs_tch h.tabs ht (fun k e => h.shot.port.board.hi k e)⟩
/-- How an arming turns it. -/
def ArmR (Q : QB) (a : AS) (d : Nat) (a' : AS) : Prop := a'.am = d ∧ a'.s.cmp = d ∧ a.s.time ≤ a'.s.time ∧ (∀ g, (∀ n, Q.gap n ≤ g) → a'.s.time ≤ a.s.time + 3 * g) ∧ a.left = a'.left + 3
theorem DeskAt.arm (h : DeskAt Q hb a w) {d : Nat} (hd : d < 18446744073709551616) (hl : 3 ≤ a.left) : Calls Tryz.prog 124 #[.pointer (some ⟨hb, 0, none⟩), .int .u64 d] w fun e w' => e = .returned (.int .i64 0) ∧ Tch (DF Q hb) w w' ∧ ∃ a', ArmR Q a d a' ∧ DeskAt Q hb a' w' := by
  have h1 := h.time
  have h2 := h.made
  have g0 := QB.gap_le h.shot.port a.made
  have g1 := QB.gap_le h.shot.port (a.made + 1)
  have g2 := QB.gap_le h.shot.port (a.made + 1 + 1)
  have h8 := h.hi
  refine (arm124 h.shot hd (by show a.made + 3 < _; omega) (by show a.s.time + (Q.gap a.made + Q.gap (a.made + 1) + Q.gap (a.made + 1 + 1)) < _; omega)).mono ?_
  rintro e w' ⟨rfl, ht, s2, sp, hs, e1, e2⟩
  have e1' : s2.time = a.s.time + (Q.gap a.made + Q.gap (a.made + 1) + Q.gap (a.made + 1 + 1)) := e1
  refine ⟨rfl, ht, ⟨s2, a.made + 3, sp, d, a.left - 3, hd⟩, ⟨rfl, e2, ?_, ?_, ?_⟩, ⟨hs, ?_, ?_, tabs_tch h.tabs ht h8⟩⟩
  · show a.s.time ≤ s2.time
    omega
  · intro g hg
    show s2.time ≤ _
    have b0 := hg a.made
    have b1 := hg (a.made + 1)
    have b2 := hg (a.made + 1 + 1)
    omega
  · show a.left = a.left - 3 + 3
    omega
  · show a.made + 3 + (a.left - 3) < _
    omega
  · show s2.time + (a.left - 3) * 4294967296 < _
    omega
end
/-- The interface, met. -/
def deskBI (Q : QB) (hb : Nat) : BI where
  A := AS
  S := DeskAt Q hb
  ft := DF Q hb
  pb := Q.pb
  hb := hb
  bb := Q.b 16
  armed := AS.am
  time := fun a => a.s.time
  cmp := fun a => a.s.cmp
  R := ArmR Q
  left := AS.left
  lf := fun h => by have := h.2.2.2.2; omega
  alt := AS.amlt
  tab := fun h => tabW_of h.tabs
  lt := fun h => h.lt
  keep := fun h ht hx => h.tch ht hx
  down := fun h => (down22 h.shot.port).mono fun e w' hx => ⟨hx.1, Tch.of_below hx.2, h.below hx.2⟩
  at_ := fun h => (armed123 h.shot).mono fun e w' hx => ⟨hx.1, by rw [hx.2]; exact Tch.refl _ _, by rw [hx.2]; exact h⟩
  arm := fun d hd hl h => h.arm hd hl
  tm := fun {a w} h => (btime h.shot.port.board).mono fun e w' hx => ⟨hx.1, hx.2.1.mono fun r hr => .inl (.inl hr), h.boardT (s' := a.s) hx.2.1 hx.2.2 (Nat.le_refl _)⟩
  cp := fun {a w} h => (bcmp h.shot.port.board).mono fun e w' hx => ⟨hx.1, hx.2.1.mono fun r hr => .inl (.inl hr), h.boardT (s' := a.s) hx.2.1 hx.2.2 (Nat.le_refl _)⟩
  bd := fun h => (pboard25 h.shot.port).mono fun e w' hx => ⟨hx.1, by rw [hx.2]; exact Tch.refl _ _, by rw [hx.2]; exact h⟩
  lv := fun {a w} h => (lives_any w h.tabs).mono fun e w' hx => ⟨hx.1, Tch.of_below hx.2, h.below hx.2⟩
end Go.Proofs.YtkndlfdpmpdihaaGreatDoor
namespace Go.Proofs.YtkndlfdpmpdihaaGreatDoor
open Go.RowKit Go.Ev Go.Mv
set_option linter.unusedVariables false
set_option linter.unusedSimpArgs false
set_option maxRecDepth 100000
theorem info22 : (Tryz.prog.info? 22).map (fun i => (i.zero, i.size, i.bytes)) = some (some (.int .u32 0), 1, 4) := by kernel_rfl
theorem under40 : Tryz.prog.underlying 40 = some (.slice 22) := by kernel_rfl
/-- The list of gaps lies where an argument tells. -/
def GapsIn (p : Option Addr) (gl : List Nat) (w : World) : Prop := gl ≠ [] → ∃ b off, p = some ⟨b, off, none⟩ ∧ b < w.heap.size ∧ ∀ (j v : Nat), gl[j]? = some v → w.cell? ⟨b, off + j, none⟩ = some (.int .u32 v)
section
variable {w : World}
set_option maxHeartbeats 1000000 in
theorem gaps11 {pb : Nat} {c3 : Value} (hb : Blk w pb #[.int .i64 0, .int .u64 0, .int .i64 0, c3, .slice none 0 0] 104) {p : Option Addr} {cap : Nat} {gl : List Nat} (hl : gl.length ≤ 64) (hp : p = none ∨ ∃ b off, p = some ⟨b, off, none⟩) (hin : GapsIn p gl w) :
    Calls Tryz.prog 11 #[.pointer (some ⟨pb, 0, none⟩), .slice p gl.length cap] w fun e w' => e = .returned (.int .i64 0) ∧ Tch (fun r => r = pb) w w' ∧ ∃ ga gc gb, Blk w' pb #[.int .i64 0, .int .u64 0, .int .i64 0, c3, .slice ga gl.length gc] 104 ∧
      (gl ≠ [] → ga = some ⟨gb, 0, none⟩ ∧ w.heap.size ≤ gb ∧ gb < w'.heap.size ∧ ∀ (j v : Nat), gl[j]? = some v → w'.cell? ⟨gb, j, none⟩ = some (.int .u32 v)) := by
  obtain ⟨i0, hi, hz0, hz1, hz2⟩ := info_parts info22
  have f4 := hb.free 4
  have d4 : w.cell? ⟨pb, 4, none⟩ = some (.slice none 0 0) := hb.cell 4 rfl
  obtain ⟨n, hn⟩ : ∃ n, n = gl.length := ⟨_, rfl⟩
  rw [← hn] at hl ⊢
  have hd64 : decide ((n : Int) > 64) = false := by simp; omega
  by_cases h0 : gl = []
  · have : n = 0 := by rw [hn, h0]; rfl
    subst this
    have HG := Lib.hid h0
    clear hn h0
    rcases hp with rfl | ⟨b, off, rfl⟩
    · have z4 := hb.set 4 (.slice none 0 0)
      have ht := (Tch.refl (fun r => r = pb) w).setCell (a := ⟨pb, 4, none⟩) (.slice none 0 0) (.inl rfl)
      go_enter Tryz.func11, Tryz.ntmps11
      go_wp2_with (at_builtin; fail)
      refine bodyPost_ret (v := .int .i64 0) ?_ rfl ⟨rfl, ht, none, 0, 0, z4, fun h => absurd HG.out h⟩
      simp [results, Tryz.results11, go_sem]
    · have z4 := hb.set 4 (.slice (some ⟨b, off, none⟩) 0 0)
      have ht := (Tch.refl (fun r => r = pb) w).setCell (a := ⟨pb, 4, none⟩) (.slice (some ⟨b, off, none⟩) 0 0) (.inl rfl)
      go_enter Tryz.func11, Tryz.ntmps11
      go_wp2_with (at_builtin; fail)
      refine bodyPost_ret (v := .int .i64 0) ?_ rfl ⟨rfl, ht, (some ⟨b, off, none⟩), 0, 0, z4, fun h => absurd HG.out h⟩
      simp [results, Tryz.results11, go_sem]
  · have hn0 : 0 < n := by
      rw [hn]
      exact List.length_pos_iff.2 h0
    obtain ⟨b, off, rfl, hbw, hcs⟩ := hin h0
    have hlen : (gl.map fun v : Nat => Value.int .u32 (v : Int)).length = n * 1 := by simp [hn]
    obtain ⟨vs, hvs⟩ : ∃ vs, vs = gl.map fun v : Nat => Value.int .u32 (v : Int) := ⟨_, rfl⟩
    have hcs' : ∀ j u, vs[j]? = some u → w.cell? ((⟨b, off, none⟩ : Addr).add j) = some u := by
      intro j u hj
      rw [hvs, List.getElem?_map] at hj
      cases hg : gl[j]? with
      | none => rw [hg] at hj; cases hj
      | some v =>
        rw [hg] at hj
        cases hj
        rw [Addr.add_lit]
        exact hcs j v hg
    have h1c : ∀ u ∈ vs, u.oneCell' = true := by
      intro u hu
      rw [hvs] at hu
      obtain ⟨v, _, rfl⟩ := List.mem_map.1 hu
      rfl
    have hvj : ∀ (j v : Nat), gl[j]? = some v → vs[j]? = some (.int .u32 v) := fun j v hj => by rw [hvs, List.getElem?_map, hj]; rfl
    rw [← hvs] at hlen
    clear hn h0 hvs
    go_enter Tryz.func11, Tryz.ntmps11
    go_wp2_with (at_builtin; refine wpList_append_grows _ rfl (.tmp 14) (.tmp 15) 40 rfl 22 i0 (.int .u32 0) 1 4 under40 hi hz0 hz1 hz2 rfl (by decide) (some ⟨b, off, none⟩) 0 0 [] rfl (by simp) rfl (by intro _ _ j u hj; simp at hj) ⟨b, off, none⟩ n cap vs rfl hlen hcs' h1c (by omega) (by unfold maxLen; omega) (by omega) ?_)
    intro v1 w1 hown hgrow
    have hb1 : Below w.heap.size w w1 := (Below.refl _ w).grown hgrow (Nat.le_refl _) (fun k e => by cases e)
    have z1 := hb.below hb1 hb.lt
    obtain ⟨hl1, ⟨_, hz⟩ | ⟨g, cap1, cur, rfl, hbg, hg1, hnc, hcm, hcsz, htk⟩⟩ := hown
    · omega
    have f5 := z1.free 4
    have d5 : w1.cell? ⟨pb, 4, none⟩ = some (.slice none 0 0) := z1.cell 4 rfl
    have z4 := z1.set 4 (.slice (some ⟨g, 0, none⟩) n cap1)
    have ht : Tch (fun r => r = pb) w (w1.setCell ⟨pb, 4, none⟩ (.slice (some ⟨g, 0, none⟩) n cap1)) := (Tch.of_below hb1).trans ((Tch.refl (fun r => r = pb) w1).setCell (a := ⟨pb, 4, none⟩) (.slice (some ⟨g, 0, none⟩) n cap1) (.inl rfl))
    have hgs : g < w1.heap.size := (Array.getElem?_eq_some_iff.1 hg1).1
    have hgp : g ≠ pb := fun e => by have := hb.lt; omega
    have hgc : ∀ (j v : Nat), gl[j]? = some v → (w1.setCell ⟨pb, 4, none⟩ (.slice (some ⟨g, 0, none⟩) n cap1)).cell? ⟨g, j, none⟩ = some (.int .u32 v) := by
      intro j v hj
      have hu := hvj j v hj
      unfold World.cell?
      rw [((Tch.refl (fun r => r = pb) w1).setCell (a := ⟨pb, 4, none⟩) (.slice (some ⟨g, 0, none⟩) n cap1) (.inl rfl)).block g hgs hgp, hg1]
      show cur[j]? = _
      have hlt : j < n * 1 := by
        have := (List.getElem?_eq_some_iff.1 hu).1
        omega
      rw [← htk, List.getElem?_take_of_lt hlt] at hu
      simpa using hu
    go_wp2
    refine bodyPost_ret (v := .int .i64 0) ?_ rfl ⟨rfl, ht, some ⟨g, 0, none⟩, cap1, g, z4, fun _ => ⟨rfl, hbg, ?_, hgc⟩⟩
    · simp [results, Tryz.results11, go_sem]
    · exact Nat.lt_of_lt_of_le hgs (Tch.refl (fun r => r = pb) w1 |>.setCell (a := ⟨pb, 4, none⟩) (.slice (some ⟨g, 0, none⟩) n cap1) (.inl rfl)).size
theorem boot42 {Q : QB} {S : QS} (h : PortAt Q S w) : Calls Tryz.prog 42 #[.pointer (some ⟨Q.pb, 0, none⟩)] w fun e w' => e = .returned (.int .i64 0) ∧ Tch (fun r => r = Q.pb) w w' ∧ PortAt Q S w' := by
  have c2 : ∀ x : WX w, x.w.cell? ⟨Q.pb, 2, none⟩ = some (.int .i64 0) := h.blk.wx 2 rfl
  go_enter Tryz.func42, Tryz.ntmps42
  go_wp2
  refine wp_region_grown (by kernel_rfl) (by kernel_rfl) ?_
  repeat (go_big_quiet_step (first | (go_at_call 59; exact WX.of_same ((resets59 (h.below (by first | assumption | exact WX.h _))).mono fun e w' h => ⟨h.1, h.2.symm⟩))))
  refine wpQuiet_nil ?_
  intro w2 hb2
  have h2 := h.below hb2
  have q2 : w2.cell? ⟨Q.pb, 2, none⟩ = some (.int .i64 0) := h2.blk.cell 2 rfl
  have f2 := h2.blk.free 2
  have z2 := h2.blk.set 2 (.int .i64 0)
  have ht := (Tch.refl (fun r => r = Q.pb) w2).setCell (a := ⟨Q.pb, 2, none⟩) (.int .i64 0) (.inl rfl)
  have h3 := h2.selfT (m := S.made) (sp := S.sp) ht z2
  clear c2
  go_wp2
  refine bodyPost_ret (v := .int .i64 0) ?_ rfl ⟨rfl, (Tch.of_below hb2).trans ht, h3⟩
  simp [results, Tryz.results42, go_sem]
theorem pnew8 {b : Nat → Nat} {s : BT} (h : BoardAt b s w) {p : Option Addr} {cap : Nat} {gl : List Nat} (hl : gl.length ≤ 64) (hv : ∀ v ∈ gl, v < 4294967296) (hp : p = none ∨ ∃ b off, p = some ⟨b, off, none⟩) (hin : GapsIn p gl w) :
    Calls Tryz.prog 8 #[.pointer (some ⟨b 16, 0, none⟩), .slice p gl.length cap] w fun e w' => ∃ Q : QB, e = .returned (.tuple #[.pointer (some ⟨Q.pb, 0, none⟩), .int .i64 0]) ∧ Below w.heap.size w w' ∧ PortAt Q ⟨s, 0, 0⟩ w' ∧ Q.b = b ∧ Q.gl = gl ∧ w.heap.size ≤ Q.pb ∧ (gl ≠ [] → w.heap.size ≤ Q.gb) := by
  have hB := (Below.refl w.heap.size w).alloc (Nat.le_refl _) (.cells #[.int .i64 0, .int .u64 0, .int .i64 0, .pointer (some ⟨b 16, 0, none⟩), .slice none 0 0] 104)
  have hX := Blk.new w #[.int .i64 0, .int .u64 0, .int .i64 0, .pointer (some ⟨b 16, 0, none⟩), .slice none 0 0] 104
  have hin1 : GapsIn p gl (w.alloc (.cells #[.int .i64 0, .int .u64 0, .int .i64 0, .pointer (some ⟨b 16, 0, none⟩), .slice none 0 0] 104)) := fun hn => by
    obtain ⟨b, off, h1, h2, h3⟩ := hin hn
    exact ⟨b, off, h1, Nat.lt_of_lt_of_le h2 hB.size, fun j v hj => (hB.cell (p := ⟨b, off + j, none⟩) h2).trans (h3 j v hj)⟩
  have h1 := h.tch (X := fun _ => False) (Tch.of_below hB) (fun k e => e.elim)
  have hG := gaps11 hX hl (cap := cap) hp hin1
  obtain ⟨n, hn⟩ : ∃ n, n = gl.length := ⟨_, rfl⟩
  obtain ⟨x, hx⟩ : ∃ x, x = w.heap.size := ⟨_, rfl⟩
  rw [← hn, ← hx] at hG
  have hxb : ∀ r, FT (ksB b) r → r < x := by rw [hx]; exact h.lt
  have hx8 : 8 ≤ x := by
    have h1 := hxb (b 16) ⟨16, ks16⟩
    have h2 := h.hi (b 16) ⟨16, ks16⟩
    omega
  rw [← hn, ← hx]
  have HN := Lib.hid hn
  rw [← hx] at hB hX
  clear hn hin hin1
  go_enter Tryz.func8, Tryz.ntmps8
  go_wp2_with (go_at_call 11; fail)
  rw [← hx]
  clear hx
  refine hG.mono ?_
  rintro e w2 ⟨rfl, ht2, ga, gc, gb, hb2, hga⟩
  have hxl := hX.lt
  have hq : PortAt ⟨b, x, ga, gc, gb, gl⟩ ⟨s, 0, 0⟩ w2 := by
    have e := HN.out
    subst e
    exact ⟨h1.tch ht2 (fun k e => e ▸ ⟨fun e' => by have := hxb x e'; omega, hx8⟩), hb2, fun hn => ⟨(hga hn).1, (hga hn).2.2.1⟩, fun j v hj => ⟨hv v (List.mem_of_getElem? hj), (hga (by rintro e; rw [e] at hj; simp at hj)).2.2.2 j v hj⟩,
      fun e' => by have := hxb x e'; omega, fun hn => ⟨fun e' => by have h2 := hxb gb e'; have h3 := (hga hn).2.1; omega, by have h3 := (hga hn).2.1; show gb ≠ x; omega, by have h3 := (hga hn).2.1; show 8 ≤ gb; omega⟩, hx8⟩
  have hgx : gl ≠ [] → x ≤ gb := fun hn => by have := (hga hn).2.1; omega
  have hB2 : Below x w w2 := hB.trans ⟨ht2.os, ht2.tape, ht2.output, ht2.size, fun k hk => ht2.block k (by omega) (by omega)⟩
  clear hb2 hga ht2 hG hX hB h1
  go_wp2_with (go_at_call 42; fail)
  refine (boot42 hq).mono ?_
  rintro e w3 ⟨rfl, ht3, hq3⟩
  go_wp2
  refine bodyPost_ret (v := .tuple #[.pointer (some ⟨x, 0, none⟩), .int .i64 0]) ?_ rfl ⟨⟨b, x, ga, gc, gb, gl⟩, rfl, hB2.trans ⟨ht3.os, ht3.tape, ht3.output, ht3.size, fun k hk => ht3.block k (by have := hq.blk.lt; show k < _; exact Nat.lt_trans hk this) (fun e => by have e : k = x := e; omega)⟩, hq3, rfl, rfl, Nat.le_refl _, hgx⟩
  simp [results, Tryz.results8, go_sem]
end
end Go.Proofs.YtkndlfdpmpdihaaGreatDoor
namespace Go.Proofs.YtkndlfdpmpdihaaGreatDoor
open Go.RowKit Go.Ev Go.Mv
set_option linter.unusedVariables false
set_option linter.unusedSimpArgs false
set_option maxRecDepth 100000
section
variable {w : World}
theorem tch_new {X : Nat → Prop} {n : Nat} {w w' : World} (h : Tch X w w') (hX : ∀ k, X k → n ≤ k) (hn : n ≤ w.heap.size) : Below n w w' := ⟨h.os, h.tape, h.output, h.size, fun k hk => h.block k (by omega) (fun e => by have := hX k e; omega)⟩
theorem snew165 {Q : QB} {S : QS} (h : PortAt Q S w) : Calls Tryz.prog 165 #[.pointer (some ⟨Q.pb, 0, none⟩), .int .i64 0] w fun e w' => ∃ hb, e = .returned (.tuple #[.pointer (some ⟨hb, 0, none⟩), .int .i64 0]) ∧ Tch (FT (ksB Q.b)) w w' ∧ w.heap.size ≤ hb ∧ ShotAt Q hb S 18446744073709551615 w' := by
  have hf : ∀ w, (Instr.field 29 (.agg #[.int .i64 1, .int .i64 1, .int .u32 10]) 0).run Tryz.prog w = .ok (.int .i64 1) w := fun _ => by kernel_rfl
  go_enter Tryz.func165, Tryz.ntmps165
  go_wp2_with (first | (go_at_call 25; refine (pboard25 h).mono ?_; rintro e w1 ⟨rfl, rfl⟩) | (go_at_call 234; fail))
  refine (bcfg h.board).mono ?_
  rintro e w2 ⟨rfl, ht2, hb2⟩
  have h2 := h.boardT ht2 hb2
  have hX := Blk.new w2 #[.pointer (some ⟨Q.pb, 0, none⟩), .int .i64 0, .int .u64 18446744073709551615] 203
  have hB : Below w2.heap.size w2 (w2.alloc (.cells #[.pointer (some ⟨Q.pb, 0, none⟩), .int .i64 0, .int .u64 18446744073709551615] 203)) := (Below.refl _ w2).alloc (Nat.le_refl _) _
  have h3 := h2.below hB
  have ho := h2.away (Nat.le_refl _)
  have h8 : 8 ≤ w2.heap.size := by have := h2.hi; have := h2.blk.lt; omega
  go_wp2
  refine bodyPost_ret (v := .tuple #[.pointer (some ⟨w2.heap.size, 0, none⟩), .int .i64 0]) ?_ rfl ⟨w2.heap.size, rfl, ht2.trans (Tch.of_below hB), ht2.size, h3, hX, ho, h8⟩
  simp [results, Tryz.results165, go_sem]
theorem cnew167 (pb : Nat) : Calls Tryz.prog 167 #[.pointer (some ⟨pb, 0, none⟩)] w fun e w' => e = .returned (.pointer (some ⟨w.heap.size, 0, none⟩)) ∧ w' = w.alloc (.cells #[.pointer (some ⟨pb, 0, none⟩), .int .u64 0] 207) := by
  go_enter Tryz.func167, Tryz.ntmps167
  go_wp2
  refine bodyPost_ret (v := .pointer (some ⟨w.heap.size, 0, none⟩)) ?_ rfl ⟨rfl, rfl⟩
  simp [results, Tryz.results167, go_sem]
theorem fnew168 : Calls Tryz.prog 168 #[] w fun e w' => e = .returned (.pointer (some ⟨w.heap.size + 1, 0, none⟩)) ∧ w' = (w.alloc (.map #[] 0)).alloc (.cells #[.slice none 0 0, .map (some w.heap.size)] 242) := by
  have hmm := @run_makeMap Tryz.prog
  go_enter Tryz.func168, Tryz.ntmps168
  go_wp2
  refine bodyPost_ret (v := .pointer (some ⟨w.heap.size + 1, 0, none⟩)) ?_ rfl ⟨rfl, rfl⟩
  simp [results, Tryz.results168, go_sem]
theorem dnew9 (pb : Nat) : Calls Tryz.prog 9 #[.pointer (some ⟨pb, 0, none⟩)] w fun e w' => ∃ x : Nat, e = .returned (.pointer (some ⟨x, 0, none⟩)) ∧ Below w.heap.size w w' := by
  go_enter Tryz.func9, Tryz.ntmps9
  go_wp2
  refine bodyPost_ret (v := .pointer (some ⟨w.heap.size, 0, none⟩)) ?_ rfl ⟨_, rfl, (Below.refl _ _).alloc (Nat.le_refl _) _⟩
  simp [results, Tryz.results9, go_sem]
end
end Go.Proofs.YtkndlfdpmpdihaaGreatDoor
namespace Go.Proofs.YtkndlfdpmpdihaaGreatDoor
open Go.RowKit Go.Ev Go.Mv
set_option linter.unusedVariables false
set_option linter.unusedSimpArgs false
set_option maxRecDepth 100000
/-- The service's clock and its log, both new. -/
structure Extra (Q : QB) (hb : Nat) (B : WB) (Z : SB) (kb lb mb : Nat) : Prop where
  v1 : Z.v1 = .pointer (some ⟨kb, 0, none⟩)
  v4 : Z.v4 = .pointer (some ⟨lb, 0, none⟩)
  k : ¬ DF Q hb kb ∧ ¬ B.all kb ∧ kb ≠ Z.b ∧ 8 ≤ kb
  l : ¬ DF Q hb lb ∧ ¬ B.all lb ∧ lb ≠ Z.b ∧ 8 ≤ lb
  m : ¬ DF Q hb mb ∧ ¬ B.all mb ∧ mb ≠ Z.b ∧ 8 ≤ mb
  kl : kb ≠ lb
  km : kb ≠ mb
  lm : lb ≠ mb
section
variable {w : World}
theorem vnew101 {Q : QB} {S : QS} {n0 : Nat} (h : PortAt Q S w) (hT : Tabs w) (h8 : 8 ≤ n0) (h0 : ∀ k, Q.ft k → n0 ≤ k) (hn : n0 ≤ w.heap.size) {r left : Nat} (h1 : 1 ≤ r) (h2 : r ≤ 31) (hm : S.made + left < 4611686018427387904) (ht : S.s.time + left * 4294967296 < 4611686018427387904) :
    Calls Tryz.prog 101 #[.pointer (some ⟨Q.pb, 0, none⟩), .int .i64 0, .int .i64 r] w fun e w' => ∃ (hb : Nat) (B : WB) (Z : SB) (kb lb mb : Nat), e = .returned (.tuple #[.pointer (some ⟨Z.b, 0, none⟩), .int .i64 0]) ∧ Below n0 w w' ∧
      SvcAt (deskBI Q hb) B Z ⟨S.s, S.made, S.sp, 18446744073709551615, left, by omega⟩ ws0 w' ∧ Z.room = r ∧ B.p.room = r ∧ B.c.room = r ∧ (∀ k, DF Q hb k ∨ B.all k → n0 ≤ k) ∧ n0 ≤ Z.b ∧
      Extra Q hb B Z kb lb mb ∧ Blk w' kb #[.pointer (some ⟨Q.pb, 0, none⟩), .int .u64 0] 207 ∧ Blk w' lb #[.slice none 0 0, .map (some mb)] 242 ∧ w'.heap[mb]? = some (.map #[] 0) ∧ n0 ≤ kb ∧ n0 ≤ lb ∧ n0 ≤ mb := by
  have hmm := @run_makeMap Tryz.prog
  go_enter Tryz.func101, Tryz.ntmps101
  go_wp2_with (go_at_call 165; fail)
  refine (snew165 h).mono ?_
  rintro e w1 ⟨hb, rfl, ht1, hb1, hs1⟩
  have hB1 : Below n0 w w1 := tch_new ht1 (fun k hk => h0 k (.inl hk)) hn
  go_wp2_with (go_at_call 166; fail)
  refine (wheel_new h1 (by omega) w1).mono ?_
  rintro e w2 ⟨B, rfl, hb2, hw2, hr1, hr2, hall⟩
  have hs2 := hs1.tch (X := fun _ => False) (Tch.of_below hb2) (fun k e => e.elim)
  go_wp2_with (first | (go_at_call 167; refine (cnew167 Q.pb).mono ?_; rintro e w3 ⟨rfl, rfl⟩) | (go_at_call 168; refine fnew168.mono ?_; rintro e w3 ⟨rfl, rfl⟩))
  have hB5 : Below w2.heap.size w2 ((((w2.alloc (Obj.cells #[.pointer (some ⟨Q.pb, 0, none⟩), .int .u64 0] 207)).alloc (Obj.map #[] 0)).alloc (Obj.cells #[.slice none 0 0, .map (some (w2.heap.size + 1))] 242)).alloc (Obj.cells #[.pointer (some ⟨B.b, 0, none⟩), .pointer (some ⟨w2.heap.size, 0, none⟩), .pointer (some ⟨hb, 0, none⟩), .pointer (some ⟨Q.pb, 0, none⟩), .pointer (some ⟨w2.heap.size + 1 + 1, 0, none⟩), .int .i64 r] 133)) := ((((Below.refl _ w2).alloc (Nat.le_refl _) _).alloc (by simp) _).alloc (by simp; omega) _).alloc (by simp; omega) _
  have z0 : Blk ((((w2.alloc (Obj.cells #[.pointer (some ⟨Q.pb, 0, none⟩), .int .u64 0] 207)).alloc (Obj.map #[] 0)).alloc (Obj.cells #[.slice none 0 0, .map (some (w2.heap.size + 1))] 242)).alloc (Obj.cells #[.pointer (some ⟨B.b, 0, none⟩), .pointer (some ⟨w2.heap.size, 0, none⟩), .pointer (some ⟨hb, 0, none⟩), .pointer (some ⟨Q.pb, 0, none⟩), .pointer (some ⟨w2.heap.size + 1 + 1, 0, none⟩), .int .i64 r] 133)) w2.heap.size #[.pointer (some ⟨Q.pb, 0, none⟩), .int .u64 0] 207 := (((Blk.new w2 _ _).alloc _).alloc _).alloc _
  have z1 : ((((w2.alloc (Obj.cells #[.pointer (some ⟨Q.pb, 0, none⟩), .int .u64 0] 207)).alloc (Obj.map #[] 0)).alloc (Obj.cells #[.slice none 0 0, .map (some (w2.heap.size + 1))] 242)).alloc (Obj.cells #[.pointer (some ⟨B.b, 0, none⟩), .pointer (some ⟨w2.heap.size, 0, none⟩), .pointer (some ⟨hb, 0, none⟩), .pointer (some ⟨Q.pb, 0, none⟩), .pointer (some ⟨w2.heap.size + 1 + 1, 0, none⟩), .int .i64 r] 133)).heap[w2.heap.size + 1]? = some (.map #[] 0) := by
    have e : (w2.alloc (Obj.cells #[.pointer (some ⟨Q.pb, 0, none⟩), .int .u64 0] 207)).heap.size = w2.heap.size + 1 := by simp
    have h1 : ((w2.alloc (Obj.cells #[.pointer (some ⟨Q.pb, 0, none⟩), .int .u64 0] 207)).alloc (Obj.map #[] 0)).heap[w2.heap.size + 1]? = some (.map #[] 0) := by rw [← e]; exact heap_alloc_new _ _
    exact (heap_alloc_old _ _ (by simp)).trans ((heap_alloc_old _ _ (by simp)).trans h1)
  have z2 : Blk ((((w2.alloc (Obj.cells #[.pointer (some ⟨Q.pb, 0, none⟩), .int .u64 0] 207)).alloc (Obj.map #[] 0)).alloc (Obj.cells #[.slice none 0 0, .map (some (w2.heap.size + 1))] 242)).alloc (Obj.cells #[.pointer (some ⟨B.b, 0, none⟩), .pointer (some ⟨w2.heap.size, 0, none⟩), .pointer (some ⟨hb, 0, none⟩), .pointer (some ⟨Q.pb, 0, none⟩), .pointer (some ⟨w2.heap.size + 1 + 1, 0, none⟩), .int .i64 r] 133)) (w2.heap.size + 1 + 1) #[.slice none 0 0, .map (some (w2.heap.size + 1))] 242 := by
    have := (Blk.new ((w2.alloc (Obj.cells #[.pointer (some ⟨Q.pb, 0, none⟩), .int .u64 0] 207)).alloc (Obj.map #[] 0)) #[.slice none 0 0, .map (some (w2.heap.size + 1))] 242).alloc (Obj.cells #[.pointer (some ⟨B.b, 0, none⟩), .pointer (some ⟨w2.heap.size, 0, none⟩), .pointer (some ⟨hb, 0, none⟩), .pointer (some ⟨Q.pb, 0, none⟩), .pointer (some ⟨w2.heap.size + 1 + 1, 0, none⟩), .int .i64 r] 133)
    simpa using this
  have z3 : Blk ((((w2.alloc (Obj.cells #[.pointer (some ⟨Q.pb, 0, none⟩), .int .u64 0] 207)).alloc (Obj.map #[] 0)).alloc (Obj.cells #[.slice none 0 0, .map (some (w2.heap.size + 1))] 242)).alloc (Obj.cells #[.pointer (some ⟨B.b, 0, none⟩), .pointer (some ⟨w2.heap.size, 0, none⟩), .pointer (some ⟨hb, 0, none⟩), .pointer (some ⟨Q.pb, 0, none⟩), .pointer (some ⟨w2.heap.size + 1 + 1, 0, none⟩), .int .i64 r] 133)) (w2.heap.size + 1 + 1 + 1) #[.pointer (some ⟨B.b, 0, none⟩), .pointer (some ⟨w2.heap.size, 0, none⟩), .pointer (some ⟨hb, 0, none⟩), .pointer (some ⟨Q.pb, 0, none⟩), .pointer (some ⟨w2.heap.size + 1 + 1, 0, none⟩), .int .i64 r] 133 := by
    have := Blk.new (((w2.alloc (Obj.cells #[.pointer (some ⟨Q.pb, 0, none⟩), .int .u64 0] 207)).alloc (Obj.map #[] 0)).alloc (Obj.cells #[.slice none 0 0, .map (some (w2.heap.size + 1))] 242)) #[.pointer (some ⟨B.b, 0, none⟩), .pointer (some ⟨w2.heap.size, 0, none⟩), .pointer (some ⟨hb, 0, none⟩), .pointer (some ⟨Q.pb, 0, none⟩), .pointer (some ⟨w2.heap.size + 1 + 1, 0, none⟩), .int .i64 r] 133
    simpa using this
  generalize ((((w2.alloc (Obj.cells #[.pointer (some ⟨Q.pb, 0, none⟩), .int .u64 0] 207)).alloc (Obj.map #[] 0)).alloc (Obj.cells #[.slice none 0 0, .map (some (w2.heap.size + 1))] 242)).alloc (Obj.cells #[.pointer (some ⟨B.b, 0, none⟩), .pointer (some ⟨w2.heap.size, 0, none⟩), .pointer (some ⟨hb, 0, none⟩), .pointer (some ⟨Q.pb, 0, none⟩), .pointer (some ⟨w2.heap.size + 1 + 1, 0, none⟩), .int .i64 r] 133)) = w5 at *
  have hdf1 : ∀ k, DF Q hb k → k < w1.heap.size := by
    rintro k (hk | rfl)
    · exact hs1.port.lt k hk
    · exact hs1.blk.lt
  have hsz := hb2.size
  have hn1 := hB1.size
  have hn01 : n0 ≤ w1.heap.size := by have := ht1.size; omega
  have hbl : ∀ k, B.all k → k < w2.heap.size := by
    have hl := hw2.lt
    rintro k ((e | (e | e | e) | (e | e)) | e | e) <;> omega
  have hdn : ∀ k, DF Q hb k → n0 ≤ k := by
    rintro k (hk | rfl)
    · exact h0 k hk
    · omega
  have away : ∀ x, w2.heap.size ≤ x → ¬ DF Q hb x ∧ ¬ B.all x := fun x hx => ⟨fun e => by have := hdf1 x e; omega, fun e => by have := hbl x e; omega⟩
  have hBn : Below n0 w w5 := (hB1.trans (hb2.mono hn01)).trans (hB5.mono (by omega))
  have hs5 := hs2.tch (X := fun _ => False) (Tch.of_below hB5) (fun k e => e.elim)
  have a0 := away w2.heap.size (Nat.le_refl _)
  have a1 := away (w2.heap.size + 1) (by omega)
  have a2 := away (w2.heap.size + 1 + 1) (by omega)
  have a3 := away (w2.heap.size + 1 + 1 + 1) (by omega)
  refine bodyPost_ret (v := .tuple #[.pointer (some ⟨w2.heap.size + 1 + 1 + 1, 0, none⟩), .int .i64 0]) ?_ rfl ⟨hb, B, ⟨w2.heap.size + 1 + 1 + 1, .pointer (some ⟨w2.heap.size, 0, none⟩), .pointer (some ⟨w2.heap.size + 1 + 1, 0, none⟩), r⟩, w2.heap.size, w2.heap.size + 1 + 1, w2.heap.size + 1, rfl, hBn,
    ⟨z3, hw2.below hB5 hw2.lt, ⟨hs5, hm, ht, hT.below h8 hBn⟩, a3.1, fun k hk e => ?_, a3.2, fun k hk => ?_⟩, rfl, hr1, hr2, fun k hk => ?_, ?_, ⟨rfl, rfl, ⟨a0.1, a0.2, ?_, ?_⟩, ⟨a2.1, a2.2, ?_, ?_⟩, ⟨a1.1, a1.2, ?_, ?_⟩, ?_, ?_, ?_⟩, z0, z2, z1, ?_, ?_, ?_⟩
  · simp [results, Tryz.results101, go_sem]
  · have := hall k hk
    have := hdf1 k e
    omega
  · have := hall k hk
    omega
  · rcases hk with hk | hk
    · exact hdn k hk
    · have := hall k hk
      omega
  all_goals first
    | omega
    | (show _ ≠ w2.heap.size + 1 + 1 + 1; omega)
    | (show n0 ≤ w2.heap.size + 1 + 1 + 1; omega)
end
end Go.Proofs.YtkndlfdpmpdihaaGreatDoor
namespace Go.Proofs.YtkndlfdpmpdihaaGreatDoor
open Go.ChangeShapes Go.WideShapes Go.Deep Go.RowKit Go.Ev
set_option linter.unusedVariables false
set_option maxRecDepth 100000
theorem var_at {W : World} {n : String} {g : Nat} {cs : Array Value} (hg : Tryz.prog.globalNamed n = some g) (h : W.var? Tryz.prog n = some cs) : ∃ e f, W.heap[g]? = some (.cells cs e f) := by
  unfold World.var? at h
  rw [hg] at h
  simp only [Option.bind_some] at h
  split at h
  · rename_i cs' e f hh
    cases h
    exact ⟨_, _, hh⟩
  · cases h
def numsOf (l : List Value) : List Int := l.map fun v => match v with
  | .int _ n => n
  | _ => 0
/-- The tables lie in their places. -/
theorem tabs_full {W : World} (h : laidMetH Tryz.prog Rows.topFullRow.laid W) : Tabs W := by
  rw [MakeChecks.laidMetH_plain _ _ _ (by kernel_rfl)] at h
  obtain ⟨ps, ⟨g0, t0, cs0, f0, p0, q0, hg0, ht0, hv0, hd0, ⟨g1, t1, cs1, f1, p1, q1, hg1, ht1, hv1, hd1, ⟨g2, t2, cs2, f2, p2, q2, hg2, ht2, hv2, hd2, _⟩, _⟩, _⟩, _, _⟩ := h
  have n0 : Tryz.prog.globalNamed "math/bits.deBruijn32tab" = some 7 := by kernel_rfl
  have n1 : Tryz.prog.globalNamed "math/bits.deBruijn64tab" = some 2 := by kernel_rfl
  have n2 : Tryz.prog.globalNamed "internal/strconv.uint64pow10" = some 0 := by kernel_rfl
  obtain rfl := Option.some.inj (n1.symm.trans hg1)
  obtain rfl := Option.some.inj (n2.symm.trans hg2)
  obtain ⟨e0, w0, h7⟩ := var_at n0 hv0
  obtain ⟨e1, w1, h2⟩ := var_at n1 hv1
  obtain ⟨e2, w2, h0⟩ := var_at n2 hv2
  have T1 : (Tryz.prog.globals[2]?).map (·.type) = some 496 := by kernel_rfl
  have T2 : (Tryz.prog.globals[0]?).map (·.type) = some 460 := by kernel_rfl
  obtain rfl := Option.some.inj (T1.symm.trans ht1)
  obtain rfl := Option.some.inj (T2.symm.trans ht2)
  have x1 := Lib.cells_of_tab (k := .u8) (zs := numsOf tab64) Tryz.underlying496 Tryz.underlying5 (by kernel_rfl) (by kernel_rfl) hd1
  have x2 := Lib.cells_of_tab (k := .u64) (zs := numsOf pow10) Tryz.underlying460 Tryz.underlying37 (by kernel_rfl) (by kernel_rfl) hd2
  have y1 : cs1 = ⟨tab64⟩ := Array.toList_inj.1 (x1.trans rfl)
  have y2 : cs2 = ⟨pow10⟩ := Array.toList_inj.1 (x2.trans rfl)
  exact ⟨(Array.getElem?_eq_some_iff.1 h7).1, ⟨e2, w2, by rw [h0, y2]⟩, e1, w1, by rw [h2, y1]⟩
end Go.Proofs.YtkndlfdpmpdihaaGreatDoor
namespace Go.Proofs.YtkndlfdpmpdihaaGreatDoor
open Go.RowKit Go.Ev Go.Mv
set_option linter.unusedVariables false
set_option linter.unusedSimpArgs false
set_option maxRecDepth 100000
/-- What made yields: the service, its clock and its log; all of it behind n0. -/
def MadeW (n0 r left : Nat) (gl : List Nat) (v : Value) (w' : World) : Prop := ∃ (Q : QB) (hb : Nat) (B : WB) (Z : SB) (kb lb mb : Nat) (a : AS), v = .pointer (some ⟨Z.b, 0, none⟩) ∧
  SvcAt (deskBI Q hb) B Z a ws0 w' ∧ a.s = bt0 ∧ a.am = 18446744073709551615 ∧ a.left = left ∧ Q.gl = gl ∧ Z.room = r ∧ B.p.room = r ∧ B.c.room = r ∧ (∀ k, DF Q hb k ∨ B.all k → n0 ≤ k) ∧ n0 ≤ Z.b ∧
  Extra Q hb B Z kb lb mb ∧ Blk w' kb #[.pointer (some ⟨Q.pb, 0, none⟩), .int .u64 0] 207 ∧ Blk w' lb #[.slice none 0 0, .map (some mb)] 242 ∧ w'.heap[mb]? = some (.map #[] 0) ∧ n0 ≤ kb ∧ n0 ≤ lb ∧ n0 ≤ mb
section
variable {w : World}
theorem made60 (hT : Tabs w) {r left : Nat} (h1 : 1 ≤ r) (h2 : r ≤ 31) (hleft : left ≤ 536870912) {p : Option Addr} {cap : Nat} {gl : List Nat} (hl : gl.length ≤ 64) (hv : ∀ v ∈ gl, v < 4294967296) (hp : p = none ∨ ∃ b off, p = some ⟨b, off, none⟩) (hin : GapsIn p gl w) :
    Calls Tryz.prog 60 #[.int .i64 1, .int .i64 0, .int .i64 r, .slice p gl.length cap] w fun e w' => ∃ v, e = .returned v ∧ Below w.heap.size w w' ∧ MadeW w.heap.size r left gl v w' := by
  have h8 := hT.1
  have hpn : ∀ {w b s}, BoardAt b s w → GapsIn p gl w → _ := fun {w b s} h hi => pnew8 (w := w) (b := b) (s := s) h (cap := cap) hl hv hp hi
  obtain ⟨n, hn⟩ : ∃ n, n = gl.length := ⟨_, rfl⟩
  rw [← hn] at hpn ⊢
  have HN := Lib.hid hn
  clear hn
  go_enter Tryz.func60, Tryz.ntmps60
  go_wp2_with (go_at_call 7; fail)
  refine (bnew hT).mono ?_
  rintro e w1 ⟨b, rfl, hb1, hB1, hft⟩
  have hin1 : GapsIn p gl w1 := fun hn => by
    obtain ⟨b, off, h1, h2, h3⟩ := hin hn
    exact ⟨b, off, h1, Nat.lt_of_lt_of_le h2 hb1.size, fun j v hj => (hb1.cell (p := ⟨b, off + j, none⟩) h2).trans (h3 j v hj)⟩
  go_wp2_with (go_at_call 8; fail)
  refine (hpn hB1 hin1).mono ?_
  rintro e w2 ⟨Q, rfl, hb2, hP2, hQb, hQl, hQp, hQg⟩
  subst hQb
  have hB2 := hb1.trans (hb2.mono hb1.size)
  have hsz1 := hb1.size
  have hsz2 := hb2.size
  have h0 : ∀ k, Q.ft k → w.heap.size ≤ k := by
    rintro k (hk | rfl | ⟨hn, rfl⟩)
    · exact hft k hk
    · omega
    · have := hQg (by rw [← hQl]; exact hn)
      omega
  have hv1 := vnew101 hP2 (hT.below h8 hB2) h8 h0 (by omega) h1 h2 (left := left) (by show 0 + left < _; omega) (by show 0 + left * 4294967296 < _; omega)
  clear hpn hin1 hB1 hft hQp hQg hb1 hb2
  go_wp2_with (go_at_call 101; fail)
  refine hv1.mono ?_
  rintro e w3 ⟨hb, B, Z, kb, lb, mb, rfl, hb3, hs3, x1, x2, x3, x4, x5, x6, x7, x8, x9, x10, x11, x12⟩
  go_wp2
  refine bodyPost_ret (v := .pointer (some ⟨Z.b, 0, none⟩)) ?_ rfl ⟨_, rfl, hB2.trans hb3, Q, hb, B, Z, kb, lb, mb, _, rfl, hs3, rfl, rfl, rfl, hQl, x1, x2, x3, x4, x5, x6, x7, x8, x9, x10, x11, x12⟩
  simp [results, Tryz.results60, go_sem]
end
end Go.Proofs.YtkndlfdpmpdihaaGreatDoor
namespace Go.Proofs.YtkndlfdpmpdihaaGreatDoor
open Go.RowKit Go.Ev Go.Mv
set_option linter.unusedVariables false
set_option linter.unusedSimpArgs false
set_option maxRecDepth 100000
theorem MadeW.below {n0 r left : Nat} {gl : List Nat} {v : Value} {w w' : World} (h : MadeW n0 r left gl v w) (hb : Below w.heap.size w w') : MadeW n0 r left gl v w' := by
  obtain ⟨Q, hb', B, Z, kb, lb, mb, a, x1, hs, x2, x3, x4, x5, x6, x7, x8, x9, x10, x11, z0, z1, z2, x12, x13, x14⟩ := h
  exact ⟨Q, hb', B, Z, kb, lb, mb, a, x1, hs.below hb, x2, x3, x4, x5, x6, x7, x8, x9, x10, x11, z0.below hb z0.lt, z1.below hb z1.lt, (hb.block _ (Array.getElem?_eq_some_iff.1 z2).1).trans z2, x12, x13, x14⟩
section
variable {w : World}
set_option maxHeartbeats 1000000 in
theorem made23 (hT : Tabs w) {room : Int} {r left : Nat} (hr : (r : Int) = 1 + IntKind.u64.wrap room % 30) (hleft : left ≤ 536870912) {p : Option Addr} {len cap : Nat} {gl : List Nat} (hlen : len ≤ 9223372036854775807) (hcap : len ≤ cap) (hl : gl.length = min len 64) (hv : ∀ v ∈ gl, v < 4294967296) (hp : p = none ∨ ∃ b off, p = some ⟨b, off, none⟩) (hin : GapsIn p gl w) :
    Calls Tryz.prog 23 #[.int .i64 room, .slice p len cap] w fun e w' => ∃ (v : Value) (x : Nat), e = .returned (.tuple #[v, .pointer (some ⟨x, 0, none⟩)]) ∧ Below w.heap.size w w' ∧ MadeW w.heap.size r left gl v w' := by
  have hu0 : 0 ≤ IntKind.u64.wrap room := by rw [IntKind.wrap_u64]; omega
  obtain ⟨u, hu⟩ : ∃ u : Int, u = IntKind.u64.wrap room := ⟨_, rfl⟩
  rw [← hu] at hr hu0
  obtain ⟨q, hq⟩ : ∃ q : Nat, r = 1 + q := ⟨r - 1, by omega⟩
  have hq30 : q < 30 := by omega
  have e1 : IntKind.u64.wrap room = u := hu.symm
  have e2 : u.tmod 30 = (q : Int) := by rw [Int.tmod_eq_emod_of_nonneg hu0]; omega
  have e3 : u % 30 = (q : Int) := by omega
  have e4 : IntKind.i64.wrap (q : Int) = (q : Int) := IntWalk.i64_in _ ⟨by omega, by omega⟩
  have e5 : IntKind.i64.wrap (1 + (q : Int)) = (r : Int) := by rw [IntWalk.i64_in _ ⟨by omega, by omega⟩]; omega
  have hr1 : 1 ≤ r := by omega
  have hr31 : r ≤ 31 := by omega
  have HM := fun (w : World) hT hin => made60 (w := w) hT hr1 hr31 hleft (cap := cap) (by rw [hl]; omega) hv hp hin
  obtain ⟨m, hm⟩ : ∃ m, m = gl.length := ⟨_, rfl⟩
  rw [← hm] at HM hl
  have hmc : m ≤ cap := by omega
  have hmin : min (len : Int) 64 = (m : Int) := by rw [hl]; omega
  clear hu hr hm hq
  have HH := Lib.hid hin
  have HTT := Lib.hid hT
  clear hin hT
  go_enter Tryz.func23, Tryz.ntmps23
  rcases hp with rfl | ⟨b, off, rfl⟩
  · go_wp2_with (go_at_call 60; fail)
    rw [← hl]
    refine (HM _ HTT.out HH.out).mono ?_
    rintro e w1 ⟨v, rfl, hb1, hM⟩
    have ⟨Q, hb, B, Z, kb, lb, mb, a, hv1, hs, _⟩ := hM
    subst hv1
    go_wp2_with (go_at_call 24; fail)
    refine (port_at hs).mono ?_
    rintro e w2 ⟨rfl, rfl⟩
    go_wp2_with (go_at_call 9; fail)
    refine (dnew9 Q.pb).mono ?_
    rintro e w3 ⟨x, rfl, hb3⟩
    have hM3 := hM.below hb3
    go_wp2
    refine bodyPost_ret (v := .tuple #[.pointer (some ⟨Z.b, 0, none⟩), .pointer (some ⟨x, 0, none⟩)]) ?_ rfl ⟨_, x, rfl, hb1.trans (hb3.mono hb1.size), hM3⟩
    simp [results, Tryz.results23, go_sem]
  · go_wp2_with (go_at_call 60; fail)
    rw [← hl]
    refine (HM _ HTT.out HH.out).mono ?_
    rintro e w1 ⟨v, rfl, hb1, hM⟩
    have ⟨Q, hb, B, Z, kb, lb, mb, a, hv1, hs, _⟩ := hM
    subst hv1
    go_wp2_with (go_at_call 24; fail)
    refine (port_at hs).mono ?_
    rintro e w2 ⟨rfl, rfl⟩
    go_wp2_with (go_at_call 9; fail)
    refine (dnew9 Q.pb).mono ?_
    rintro e w3 ⟨x, rfl, hb3⟩
    have hM3 := hM.below hb3
    go_wp2
    refine bodyPost_ret (v := .tuple #[.pointer (some ⟨Z.b, 0, none⟩), .pointer (some ⟨x, 0, none⟩)]) ?_ rfl ⟨_, x, rfl, hb1.trans (hb3.mono hb1.size), hM3⟩
    simp [results, Tryz.results23, go_sem]
end
end Go.Proofs.YtkndlfdpmpdihaaGreatDoor
namespace Go.Proofs.YtkndlfdpmpdihaaGreatDoor
open Go.RowKit Go.Ev Go.Mv
set_option linter.unusedVariables false
set_option linter.unusedSimpArgs false
set_option maxRecDepth 100000
theorem made_full (W : World) (hT : Tabs W) (room : Int) (w1 : World) (hb : Below W.heap.size W w1) (hX : Blk w1 W.heap.size #[.int .u32 1] 22) :
    Calls Tryz.prog 23 #[.int .i64 room, .slice (some ⟨W.heap.size, 0, none⟩) 1 1] w1 fun e w2 => ∃ (I : BI) (B : WB) (Z : SB) (a : I.A) (x : Nat),
      e = .returned (.tuple #[.pointer (some ⟨Z.b, 0, none⟩), .pointer (some ⟨x, 0, none⟩)]) ∧ Below W.heap.size W w2 ∧ SvcAt I B Z a ws0 w2 ∧ (∃ ls, FullW B Z.room 0 ws0 ls) ∧ 1 ≤ Z.room ∧ 189 ≤ I.left a ∧ ∀ k, (I.ft k ∨ B.own k) → W.heap.size ≤ k := by
  have hu0 : 0 ≤ IntKind.u64.wrap room := by rw [IntKind.wrap_u64]; omega
  have hT1 := hT.below hT.1 hb
  have h8 := hT.1
  have hsz := hb.size
  refine (made23 hT1 (room := room) (r := (1 + IntKind.u64.wrap room % 30).toNat) (left := 1000) (by omega) (by omega) (p := some ⟨W.heap.size, 0, none⟩) (len := 1) (cap := 1) (gl := [1]) (by omega) (by omega) rfl (fun v hv => by simp at hv; omega) (.inr ⟨_, _, rfl⟩)
    (fun _ => ⟨_, _, rfl, hX.lt, fun j v hj => ?_⟩)).mono ?_
  · match j, hj with
    | 0, hj =>
      simp at hj
      subst hj
      exact hX.cell 0 rfl
  rintro e w2 ⟨v, x, rfl, hb2, Q, hb', B, Z, kb, lb, mb, a, rfl, hs, _, _, hl, _, hr, hr1, hr2, hft, _⟩
  refine ⟨deskBI Q hb', B, Z, a, x, rfl, hb.trans (hb2.mono hsz), hs, ⟨_, full_zero (hr1.trans hr.symm) (hr2.trans hr.symm) (by omega) (fun e => ?_)⟩, by omega, ?_, fun k hk => ?_⟩
  · have := hft 2 (.inr (.inl e))
    omega
  · show 189 ≤ a.left
    omega
  · have := hft k (hk.imp id .inl)
    omega
end Go.Proofs.YtkndlfdpmpdihaaGreatDoor
namespace Go.Proofs.YtkndlfdpmpdihaaGreatDoor
open Go.ChangeShapes Go.WideShapes Go.Deep Go.RowKit
set_option linter.unusedVariables false
set_option maxRecDepth 100000
theorem wf_u64' {n : Int} (h : (Lit.int .u64 n).wf = true) : 0 ≤ n ∧ n ≤ 18446744073709551615 := by
  simp [Lit.wf, IntKind.min, IntKind.max, IntKind.signed, IntKind.bits] at h; omega
theorem nums56 {H : Type} {enc : TypeId × Value → H} {W : World} {v : Value} {d : DataW H} {p : List MemPlace} (hv : ∃ a len cap, v = .slice a len cap) (h : DataW.Trod enc Tryz.prog W 0 (fun _ => true) true 56 v d p) :
    ∃ (A : Option Addr) (len cap : Nat) (xs : Nat → Nat), v = .slice A len cap ∧ len ≤ maxLen ∧ (∀ j, xs j < 18446744073709551616) ∧ (0 < len → ∃ b off, A = some ⟨b, off, none⟩ ∧ b < W.heap.size ∧ ∀ j, j < len → W.cell? ⟨b, off + j, none⟩ = some (.int .u64 (xs j))) := by
  obtain ⟨fuel, hf⟩ := h
  obtain ⟨A, l0, c0, rfl⟩ := hv
  rcases open_slice Tryz.underlying56 hf with ⟨hcs, _⟩ | ⟨a, len, cap, m, n, D, Pl, hcs, _, hl, hm, hmm, _, hi'⟩
  · simp [Value.cells] at hcs
    obtain ⟨rfl, rfl, rfl⟩ := hcs
    exact ⟨_, _, _, fun _ => 0, rfl, Nat.zero_le _, fun _ => Nat.zero_lt_succ _, fun h => absurd h (by omega)⟩
  · simp [Value.cells] at hcs
    obtain ⟨rfl, rfl, rfl⟩ := hcs
    rw [show Tryz.prog.cellsOf 37 = 1 by kernel_rfl] at hi'
    have cellAt : ∀ i, i < l0 → ∃ x : Nat, x < 18446744073709551616 ∧ W.cell? (a.add (i * 1)) = some (.int .u64 x) := fun i hil => by
      obtain ⟨cs, hc, ht'⟩ := hi' i (by rw [hmm]; simp; omega)
      obtain ⟨x, g, _, wx⟩ := DataW.trod_int Tryz.underlying37 ht'
      subst g
      obtain ⟨_, _, hcell⟩ := World.cells?_some hc
      have c0 := hcell 0 (by omega)
      have b := wf_u64' wx
      refine ⟨x.toNat, by omega, ?_⟩
      rw [show ((x.toNat : Nat) : Int) = x by omega]
      simpa [Addr.add] using c0
    refine ⟨_, _, _, fun i => if h : i < l0 then Classical.choose (cellAt i h) else 0, rfl, Nat.le_trans hl hm, fun j => ?_, fun h0 => ?_⟩
    · by_cases h : j < l0
      · simp only [dif_pos h]
        exact (Classical.choose_spec (cellAt j h)).1
      · simp only [dif_neg h]
        omega
    · obtain ⟨x0, _, hx0⟩ := cellAt 0 h0
      obtain ⟨sb, so, spot⟩ := a
      have hspot : spot = none := by simpa [Addr.add] using World.cell?_spot hx0
      subst hspot
      refine ⟨sb, so, rfl, ?_, fun j hj => ?_⟩
      · exact World.block_lt_of_cell? W _ hx0
      · simp only [dif_pos hj]
        have hx := (Classical.choose_spec (cellAt j hj)).2
        generalize Classical.choose (cellAt j hj) = y at *
        rw [Addr.add_lit, Nat.mul_one] at hx
        exact hx
end Go.Proofs.YtkndlfdpmpdihaaGreatDoor
