/- The date of a text: the program's. Each under the premises that its own statement shows. -/
import Derived.Test.YtajjibfipkijfaaJ0
import Derived.Deep.CutRange
set_option linter.unusedVariables false
set_option linter.unusedSimpArgs false
namespace Go.Proofs.Ytajjibfipkijfaa
open Go.RowKit

/-- What holds ahead of each byte. -/
def RelQ (w0 : World) (sb zb : Nat) (s : ByteArray) (b : Nat → Int) (k : Nat) (i : Value) (wr : World) : Prop :=
  ∃ n : Nat, i = I (n : Nat) ∧ n ≤ 19 ∧ k = 19 - n ∧ (∀ j, j < n → okAt b j) ∧ Blk wr sb #[.string s] 9 ∧ Blk wr zb #[I 0, I 0, I 0, I 0, I 0, I 0] 24 ∧ Below w0.heap.size w0 wr

section
variable {s : ByteArray} {b : Nat → Int}

theorem parse_len (hs : s.size ≠ 19) (w : World) : Calls Try.prog 22 #[.string s] w fun e w' => e = .returned (.tuple #[.agg DT.zero.cs, .int .i64 3]) ∧ Below w.heap.size w w' := by
  have q : ((s.size : Int) == 19) = false := by simp; omega
  have q' : ((s.size : Int) != 19) = true := by simp; omega
  go_enter Try.func22, Try.ntmps22
  go_wp2
  all_goals exact bodyPost_ret (v := .tuple #[.agg #[I 0, I 0, I 0, I 0, I 0, I 0], .int .i64 3]) (by simp [results, Try.results22, go_sem]) rfl ⟨rfl, ((Below.refl _ _).alloc (Nat.le_refl _) _).alloc (by simp) _⟩

set_option maxRecDepth 100000 in
set_option maxHeartbeats 8000000 in
theorem parse_walk (h : S19 s b) (r : DT) (er : Int) (hr : Res b r er) (w : World) : Calls Try.prog 22 #[.string s] w fun e w' => e = .returned (.tuple #[.agg r.cs, .int .i64 er]) ∧ Below w.heap.size w w' := by
  have q : ((s.size : Int) == 19) = true := by simp [h.size]
  have q' : ((s.size : Int) != 19) = false := by simp [h.size]
  have hmf : ∀ (fn : Fn) (first cap : Array Value) (w : World), (Instr.makeFunc fn first cap).run Try.prog w = .ok (.func fn first cap) w := fun _ _ _ _ => rfl
  have S2 : Hid (Blk ((w.alloc (.cells #[.string s] 9)).alloc (.cells #[I 0, I 0, I 0, I 0, I 0, I 0] 24)) w.heap.size #[.string s] 9) := Lib.hid ((Blk.new w #[.string s] 9).alloc _)
  have Z2 : Hid (Blk ((w.alloc (.cells #[.string s] 9)).alloc (.cells #[I 0, I 0, I 0, I 0, I 0, I 0] 24)) (w.heap.size + 1) #[I 0, I 0, I 0, I 0, I 0, I 0] 24) := Lib.hid (by simpa using Blk.new (w.alloc (.cells #[.string s] 9)) #[I 0, I 0, I 0, I 0, I 0, I 0] 24)
  have B2 : Hid (Below w.heap.size w ((w.alloc (.cells #[.string s] 9)).alloc (.cells #[I 0, I 0, I 0, I 0, I 0, I 0] 24))) := Lib.hid (((Below.refl _ _).alloc (Nat.le_refl _) _).alloc (by simp) _)
  have HR := Lib.hid hr
  clear hr
  go_enter Try.func22, Try.ntmps22
  go_wp2_with fail
  clear q q'
  go_loopg [12] 19 (fun k i wr => RelQ w w.heap.size (w.heap.size + 1) s b k i wr)
  case atStart => exact ⟨0, rfl, by omega, rfl, fun j hj => absurd hj (Nat.not_lt_zero j), S2.out, Z2.out, B2.out⟩
  case round =>
    clear S2 Z2 B2
    obtain ⟨n, rfl, hn, hk, hok, hS, hZ, hB⟩ := hrel
    have hK := Lib.hid hk
    have OK := Lib.hid hok
    clear hk hok
    by_cases hlt : n = 19
    · subst hlt
      have all : okAll b := OK.out
      have dg : ∀ j, j < 19 → ¬ (j = 4 ∨ j = 7) → ¬ j = 10 → ¬ (j = 13 ∨ j = 16) → DG b j := fun j hj h1 h2 h3 => by
        have := all j hj
        unfold okAt at this
        rw [if_neg h1, if_neg h2, if_neg h3] at this
        exact this
      have HB := Lib.hid hB
      have cs : wr.cell? ⟨w.heap.size, 0, none⟩ = some (.string s) := hS.cell 0 rfl
      have N0 := Lib.hid (fun (wx : World) (hx : wx.cell? ⟨w.heap.size, 0, none⟩ = some (.string s)) => num_0 h (dg 0 (by decide) (by decide) (by decide) (by decide)) (dg 1 (by decide) (by decide) (by decide) (by decide)) (dg 2 (by decide) (by decide) (by decide) (by decide)) (dg 3 (by decide) (by decide) (by decide) (by decide)) w.heap.size wx hx)
      have N5 := Lib.hid (fun (wx : World) (hx : wx.cell? ⟨w.heap.size, 0, none⟩ = some (.string s)) => num_5 h (dg 5 (by decide) (by decide) (by decide) (by decide)) (dg 6 (by decide) (by decide) (by decide) (by decide)) w.heap.size wx hx)
      have N8 := Lib.hid (fun (wx : World) (hx : wx.cell? ⟨w.heap.size, 0, none⟩ = some (.string s)) => num_8 h (dg 8 (by decide) (by decide) (by decide) (by decide)) (dg 9 (by decide) (by decide) (by decide) (by decide)) w.heap.size wx hx)
      have N11 := Lib.hid (fun (wx : World) (hx : wx.cell? ⟨w.heap.size, 0, none⟩ = some (.string s)) => num_11 h (dg 11 (by decide) (by decide) (by decide) (by decide)) (dg 12 (by decide) (by decide) (by decide) (by decide)) w.heap.size wx hx)
      have N14 := Lib.hid (fun (wx : World) (hx : wx.cell? ⟨w.heap.size, 0, none⟩ = some (.string s)) => num_14 h (dg 14 (by decide) (by decide) (by decide) (by decide)) (dg 15 (by decide) (by decide) (by decide) (by decide)) w.heap.size wx hx)
      have N17 := Lib.hid (fun (wx : World) (hx : wx.cell? ⟨w.heap.size, 0, none⟩ = some (.string s)) => num_17 h (dg 17 (by decide) (by decide) (by decide) (by decide)) (dg 18 (by decide) (by decide) (by decide) (by decide)) w.heap.size wx hx)
      clear hB dg
      go_wp2_with ((go_at_call 29; fail))
      refine (N0.out _ cs).mono ?_
      rintro e wn0 ⟨rfl, hn0⟩
      replace hS := hS.below hn0 hS.lt; replace hZ := hZ.below hn0 hZ.lt
      replace HB := Lib.hid (HB.out.trans (hn0.mono HB.out.size))
      clear hn0 cs
      have cs : wn0.cell? ⟨w.heap.size, 0, none⟩ = some (.string s) := hS.cell 0 rfl
      go_wp2_with ((go_at_call 29; fail))
      refine (N5.out _ cs).mono ?_
      rintro e wn5 ⟨rfl, hn5⟩
      replace hS := hS.below hn5 hS.lt; replace hZ := hZ.below hn5 hZ.lt
      replace HB := Lib.hid (HB.out.trans (hn5.mono HB.out.size))
      clear hn5 cs
      have cs : wn5.cell? ⟨w.heap.size, 0, none⟩ = some (.string s) := hS.cell 0 rfl
      go_wp2_with ((go_at_call 29; fail))
      refine (N8.out _ cs).mono ?_
      rintro e wn8 ⟨rfl, hn8⟩
      replace hS := hS.below hn8 hS.lt; replace hZ := hZ.below hn8 hZ.lt
      replace HB := Lib.hid (HB.out.trans (hn8.mono HB.out.size))
      clear hn8 cs
      have cs : wn8.cell? ⟨w.heap.size, 0, none⟩ = some (.string s) := hS.cell 0 rfl
      go_wp2_with ((go_at_call 29; fail))
      refine (N11.out _ cs).mono ?_
      rintro e wn11 ⟨rfl, hn11⟩
      replace hS := hS.below hn11 hS.lt; replace hZ := hZ.below hn11 hZ.lt
      replace HB := Lib.hid (HB.out.trans (hn11.mono HB.out.size))
      clear hn11 cs
      have cs : wn11.cell? ⟨w.heap.size, 0, none⟩ = some (.string s) := hS.cell 0 rfl
      go_wp2_with ((go_at_call 29; fail))
      refine (N14.out _ cs).mono ?_
      rintro e wn14 ⟨rfl, hn14⟩
      replace hS := hS.below hn14 hS.lt; replace hZ := hZ.below hn14 hZ.lt
      replace HB := Lib.hid (HB.out.trans (hn14.mono HB.out.size))
      clear hn14 cs
      have cs : wn14.cell? ⟨w.heap.size, 0, none⟩ = some (.string s) := hS.cell 0 rfl
      go_wp2_with ((go_at_call 29; fail))
      refine (N17.out _ cs).mono ?_
      rintro e wn17 ⟨rfl, hn17⟩
      replace hS := hS.below hn17 hS.lt; replace hZ := hZ.below hn17 hZ.lt
      replace HB := Lib.hid (HB.out.trans (hn17.mono HB.out.size))
      clear hn17 cs
      have cs : wn17.cell? ⟨w.heap.size, 0, none⟩ = some (.string s) := hS.cell 0 rfl
      obtain ⟨dd, hdd⟩ : ∃ dd, dateOf b = dd := ⟨_, rfl⟩
      go_wp2_with ((go_at_call 12; fail))
      refine (right_any _ _ _ _ _ _ _).mono ?_
      rintro e w5 ⟨rfl, hb5⟩
      have D5 := (Blk.new wn17 #[I (1000 * (b 0 - 48) + 100 * (b 1 - 48) + 10 * (b 2 - 48) + (b 3 - 48)), I (10 * (b 5 - 48) + (b 6 - 48)), I (10 * (b 8 - 48) + (b 9 - 48)), I (10 * (b 11 - 48) + (b 12 - 48)), I (10 * (b 14 - 48) + (b 15 - 48)), I (10 * (b 17 - 48) + (b 18 - 48))] 24).below hb5 (Blk.new wn17 #[I (1000 * (b 0 - 48) + 100 * (b 1 - 48) + 10 * (b 2 - 48) + (b 3 - 48)), I (10 * (b 5 - 48) + (b 6 - 48)), I (10 * (b 8 - 48) + (b 9 - 48)), I (10 * (b 11 - 48) + (b 12 - 48)), I (10 * (b 14 - 48) + (b 15 - 48)), I (10 * (b 17 - 48) + (b 18 - 48))] 24).lt
      have Z5 := (hZ.alloc (.cells #[I (1000 * (b 0 - 48) + 100 * (b 1 - 48) + 10 * (b 2 - 48) + (b 3 - 48)), I (10 * (b 5 - 48) + (b 6 - 48)), I (10 * (b 8 - 48) + (b 9 - 48)), I (10 * (b 11 - 48) + (b 12 - 48)), I (10 * (b 14 - 48) + (b 15 - 48)), I (10 * (b 17 - 48) + (b 18 - 48))] 24)).below hb5 (hZ.alloc _).lt
      have B5 := (HB.out.alloc HB.out.size (.cells #[I (1000 * (b 0 - 48) + 100 * (b 1 - 48) + 10 * (b 2 - 48) + (b 3 - 48)), I (10 * (b 5 - 48) + (b 6 - 48)), I (10 * (b 8 - 48) + (b 9 - 48)), I (10 * (b 11 - 48) + (b 12 - 48)), I (10 * (b 14 - 48) + (b 15 - 48)), I (10 * (b 17 - 48) + (b 18 - 48))] 24)).trans (hb5.mono (HB.out.alloc HB.out.size _).size)
      have HD5 := Lib.hid D5
      have HZ5 := Lib.hid Z5
      have HB5 := Lib.hid B5
      clear D5 Z5 B5 hb5 hS hZ HB cs
      cases hri : rightB (dateOf b).y (dateOf b).m (dateOf b).d (dateOf b).h (dateOf b).i (dateOf b).s
      · obtain ⟨rfl, rfl⟩ := HR.out.out all hri
        have HRI := Lib.hid hri
        have hri2 : rightB (1000 * (b 0 - 48) + 100 * (b 1 - 48) + 10 * (b 2 - 48) + (b 3 - 48)) (10 * (b 5 - 48) + (b 6 - 48)) (10 * (b 8 - 48) + (b 9 - 48)) (10 * (b 11 - 48) + (b 12 - 48)) (10 * (b 14 - 48) + (b 15 - 48)) (10 * (b 17 - 48) + (b 18 - 48)) = false := hri
        clear hri hdd all
        have y50 := HZ5.out.free 0; have y51 := HZ5.out.free 1; have y52 := HZ5.out.free 2; have y53 := HZ5.out.free 3; have y54 := HZ5.out.free 4; have y55 := HZ5.out.free 5; have z50 := HZ5.out.cell 0 rfl; have z51 := HZ5.out.cell 1 rfl; have z52 := HZ5.out.cell 2 rfl; have z53 := HZ5.out.cell 3 rfl; have z54 := HZ5.out.cell 4 rfl; have z55 := HZ5.out.cell 5 rfl
        go_wp2_with fail
        refine bodyPost_ret (v := .tuple #[.agg #[I 0, I 0, I 0, I 0, I 0, I 0], .int .i64 5]) (by simp [results, Try.results22, go_sem, z50, z51, z52, z53, z54, z55]) rfl ⟨rfl, ?_⟩
        iterate 6 (refine Below.setCell ?_ (Nat.le_succ _) _)
        exact HB5.out
      · obtain ⟨rfl, rfl⟩ := HR.out.yes all hri
        have hri2 : rightB (1000 * (b 0 - 48) + 100 * (b 1 - 48) + 10 * (b 2 - 48) + (b 3 - 48)) (10 * (b 5 - 48) + (b 6 - 48)) (10 * (b 8 - 48) + (b 9 - 48)) (10 * (b 11 - 48) + (b 12 - 48)) (10 * (b 14 - 48) + (b 15 - 48)) (10 * (b 17 - 48) + (b 18 - 48)) = true := hri
        clear hri hdd all
        have y50 := HZ5.out.free 0; have y51 := HZ5.out.free 1; have y52 := HZ5.out.free 2; have y53 := HZ5.out.free 3; have y54 := HZ5.out.free 4; have y55 := HZ5.out.free 5; have z50 := HZ5.out.cell 0 rfl; have z51 := HZ5.out.cell 1 rfl; have z52 := HZ5.out.cell 2 rfl; have z53 := HZ5.out.cell 3 rfl; have z54 := HZ5.out.cell 4 rfl; have z55 := HZ5.out.cell 5 rfl; have d50 := HD5.out.cell 0 rfl; have d51 := HD5.out.cell 1 rfl; have d52 := HD5.out.cell 2 rfl; have d53 := HD5.out.cell 3 rfl; have d54 := HD5.out.cell 4 rfl; have d55 := HD5.out.cell 5 rfl
        go_wp2_with fail
        refine bodyPost_ret (v := .tuple #[.agg #[I (1000 * (b 0 - 48) + 100 * (b 1 - 48) + 10 * (b 2 - 48) + (b 3 - 48)), I (10 * (b 5 - 48) + (b 6 - 48)), I (10 * (b 8 - 48) + (b 9 - 48)), I (10 * (b 11 - 48) + (b 12 - 48)), I (10 * (b 14 - 48) + (b 15 - 48)), I (10 * (b 17 - 48) + (b 18 - 48))], .int .i64 0]) (by simp [results, Try.results22, go_sem, z50, z51, z52, z53, z54, z55]) rfl ⟨rfl, ?_⟩
        iterate 6 (refine Below.setCell ?_ (Nat.le_succ _) _)
        exact HB5.out
    · have HB := Lib.hid hB
      have HS := Lib.hid hS
      have HZ := Lib.hid hZ
      have cs : wr.cell? ⟨w.heap.size, 0, none⟩ = some (.string s) := hS.cell 0 rfl
      have csx : ∀ x : WX wr, x.w.cell? ⟨w.heap.size, 0, none⟩ = some (.string s) := hS.wx 0 rfl
      clear hB hS hZ hmf
      have hcases : n = 0 ∨ n = 1 ∨ n = 2 ∨ n = 3 ∨ n = 4 ∨ n = 5 ∨ n = 6 ∨ n = 7 ∨ n = 8 ∨ n = 9 ∨ n = 10 ∨ n = 11 ∨ n = 12 ∨ n = 13 ∨ n = 14 ∨ n = 15 ∨ n = 16 ∨ n = 17 ∨ n = 18 := by omega
      clear hn hlt
      rcases hcases with rfl | rfl | rfl | rfl | rfl | rfl | rfl | rfl | rfl | rfl | rfl | rfl | rfl | rfl | rfl | rfl | rfl | rfl | rfl
      · have hx : ∀ w : World, (Instr.index 9 (.string s) (I 0)).run Try.prog w = .ok (.int .u8 (b 0)) w := h.ix 0 (by decide)
        have hf : ∀ w : World, (Instr.index 9 (.string ⟨#[100, 100, 100, 100, 45, 100, 100, 45, 100, 100, 84, 100, 100, 58, 100, 100, 58, 100, 100]⟩) (I 0)).run Try.prog w = .ok (.int .u8 100) w := fun _ => by kernel_rfl
        by_cases hg : DG b 0
        · have HG := Lib.hid hg
          have e1 : decide (48 ≤ b 0) = true := by simpa using hg.1
          have e2 : decide (b 0 ≤ 57) = true := by simpa using hg.2
          clear hg
          go_wp2_with fail
          refine wp_region_grown (by kernel_rfl) (by kernel_rfl) ?_
          repeat (go_big_quiet_step (fail))
          refine wpQuiet_nil ?_
          intro wq hbq
          clear cs csx hx hf
          clear e1 e2
          have hS := HS.out.below hbq HS.out.lt
          have hZ := HZ.out.below hbq HZ.out.lt
          have hB := Lib.hid (HB.out.trans (hbq.mono HB.out.size))
          clear hbq
          go_wp2_with fail
          go_roundg (19 - (0 + 1))
          case measure => have := hK.out; omega
          case rel => exact ⟨0 + 1, by go_num, by omega, rfl, okAll_up OK.out (by unfold okAt; rw [if_neg (by decide), if_neg (by decide), if_neg (by decide)]; exact HG.out), hS, hZ, hB.out⟩
        · obtain ⟨rfl, rfl⟩ := HR.out.bad (fun all => by have hh := all 0 (by decide); unfold okAt at hh; rw [if_neg (by decide), if_neg (by decide), if_neg (by decide)] at hh; exact hg hh)
          by_cases h1 : 48 ≤ b 0
          · have e1 : decide (48 ≤ b 0) = true := by simpa using h1
            have e2 : decide (b 0 ≤ 57) = false := by simp; unfold DG at hg; omega
            clear h1 hg
            go_wp2_with fail
            refine wp_region_grown (by kernel_rfl) (by kernel_rfl) ?_
            repeat (go_big_quiet_step (fail))
            refine wpQuiet_nil ?_
            intro wq hbq
            clear cs csx hx hf
            have Z5 := HZ.out.below hbq HZ.out.lt
            have B5 := Lib.hid (HB.out.trans (hbq.mono HB.out.size))
            have y50 := Z5.free 0; have y51 := Z5.free 1; have y52 := Z5.free 2; have y53 := Z5.free 3; have y54 := Z5.free 4; have y55 := Z5.free 5
            have z50 := Z5.cell 0 rfl; have z51 := Z5.cell 1 rfl; have z52 := Z5.cell 2 rfl; have z53 := Z5.cell 3 rfl; have z54 := Z5.cell 4 rfl; have z55 := Z5.cell 5 rfl
            go_wp2_with fail
            refine bodyPost_ret (v := .tuple #[.agg #[I 0, I 0, I 0, I 0, I 0, I 0], .int .i64 3]) (by simp [results, Try.results22, go_sem, z50, z51, z52, z53, z54, z55]) rfl ⟨rfl, ?_⟩
            iterate 6 (refine Below.setCell ?_ (Nat.le_succ _) _)
            exact B5.out
          · have e1 : decide (48 ≤ b 0) = false := by simpa using h1
            clear h1 hg
            go_wp2_with fail
            refine wp_region_grown (by kernel_rfl) (by kernel_rfl) ?_
            repeat (go_big_quiet_step (fail))
            refine wpQuiet_nil ?_
            intro wq hbq
            clear cs csx hx hf
            have Z5 := HZ.out.below hbq HZ.out.lt
            have B5 := Lib.hid (HB.out.trans (hbq.mono HB.out.size))
            have y50 := Z5.free 0; have y51 := Z5.free 1; have y52 := Z5.free 2; have y53 := Z5.free 3; have y54 := Z5.free 4; have y55 := Z5.free 5
            have z50 := Z5.cell 0 rfl; have z51 := Z5.cell 1 rfl; have z52 := Z5.cell 2 rfl; have z53 := Z5.cell 3 rfl; have z54 := Z5.cell 4 rfl; have z55 := Z5.cell 5 rfl
            go_wp2_with fail
            refine bodyPost_ret (v := .tuple #[.agg #[I 0, I 0, I 0, I 0, I 0, I 0], .int .i64 3]) (by simp [results, Try.results22, go_sem, z50, z51, z52, z53, z54, z55]) rfl ⟨rfl, ?_⟩
            iterate 6 (refine Below.setCell ?_ (Nat.le_succ _) _)
            exact B5.out
      · have hx : ∀ w : World, (Instr.index 9 (.string s) (I 1)).run Try.prog w = .ok (.int .u8 (b 1)) w := h.ix 1 (by decide)
        have hf : ∀ w : World, (Instr.index 9 (.string ⟨#[100, 100, 100, 100, 45, 100, 100, 45, 100, 100, 84, 100, 100, 58, 100, 100, 58, 100, 100]⟩) (I 1)).run Try.prog w = .ok (.int .u8 100) w := fun _ => by kernel_rfl
        by_cases hg : DG b 1
        · have HG := Lib.hid hg
          have e1 : decide (48 ≤ b 1) = true := by simpa using hg.1
          have e2 : decide (b 1 ≤ 57) = true := by simpa using hg.2
          clear hg
          go_wp2_with fail
          refine wp_region_grown (by kernel_rfl) (by kernel_rfl) ?_
          repeat (go_big_quiet_step (fail))
          refine wpQuiet_nil ?_
          intro wq hbq
          clear cs csx hx hf
          clear e1 e2
          have hS := HS.out.below hbq HS.out.lt
          have hZ := HZ.out.below hbq HZ.out.lt
          have hB := Lib.hid (HB.out.trans (hbq.mono HB.out.size))
          clear hbq
          go_wp2_with fail
          go_roundg (19 - (1 + 1))
          case measure => have := hK.out; omega
          case rel => exact ⟨1 + 1, by go_num, by omega, rfl, okAll_up OK.out (by unfold okAt; rw [if_neg (by decide), if_neg (by decide), if_neg (by decide)]; exact HG.out), hS, hZ, hB.out⟩
        · obtain ⟨rfl, rfl⟩ := HR.out.bad (fun all => by have hh := all 1 (by decide); unfold okAt at hh; rw [if_neg (by decide), if_neg (by decide), if_neg (by decide)] at hh; exact hg hh)
          by_cases h1 : 48 ≤ b 1
          · have e1 : decide (48 ≤ b 1) = true := by simpa using h1
            have e2 : decide (b 1 ≤ 57) = false := by simp; unfold DG at hg; omega
            clear h1 hg
            go_wp2_with fail
            refine wp_region_grown (by kernel_rfl) (by kernel_rfl) ?_
            repeat (go_big_quiet_step (fail))
            refine wpQuiet_nil ?_
            intro wq hbq
            clear cs csx hx hf
            have Z5 := HZ.out.below hbq HZ.out.lt
            have B5 := Lib.hid (HB.out.trans (hbq.mono HB.out.size))
            have y50 := Z5.free 0; have y51 := Z5.free 1; have y52 := Z5.free 2; have y53 := Z5.free 3; have y54 := Z5.free 4; have y55 := Z5.free 5
            have z50 := Z5.cell 0 rfl; have z51 := Z5.cell 1 rfl; have z52 := Z5.cell 2 rfl; have z53 := Z5.cell 3 rfl; have z54 := Z5.cell 4 rfl; have z55 := Z5.cell 5 rfl
            go_wp2_with fail
            refine bodyPost_ret (v := .tuple #[.agg #[I 0, I 0, I 0, I 0, I 0, I 0], .int .i64 3]) (by simp [results, Try.results22, go_sem, z50, z51, z52, z53, z54, z55]) rfl ⟨rfl, ?_⟩
            iterate 6 (refine Below.setCell ?_ (Nat.le_succ _) _)
            exact B5.out
          · have e1 : decide (48 ≤ b 1) = false := by simpa using h1
            clear h1 hg
            go_wp2_with fail
            refine wp_region_grown (by kernel_rfl) (by kernel_rfl) ?_
            repeat (go_big_quiet_step (fail))
            refine wpQuiet_nil ?_
            intro wq hbq
            clear cs csx hx hf
            have Z5 := HZ.out.below hbq HZ.out.lt
            have B5 := Lib.hid (HB.out.trans (hbq.mono HB.out.size))
            have y50 := Z5.free 0; have y51 := Z5.free 1; have y52 := Z5.free 2; have y53 := Z5.free 3; have y54 := Z5.free 4; have y55 := Z5.free 5
            have z50 := Z5.cell 0 rfl; have z51 := Z5.cell 1 rfl; have z52 := Z5.cell 2 rfl; have z53 := Z5.cell 3 rfl; have z54 := Z5.cell 4 rfl; have z55 := Z5.cell 5 rfl
            go_wp2_with fail
            refine bodyPost_ret (v := .tuple #[.agg #[I 0, I 0, I 0, I 0, I 0, I 0], .int .i64 3]) (by simp [results, Try.results22, go_sem, z50, z51, z52, z53, z54, z55]) rfl ⟨rfl, ?_⟩
            iterate 6 (refine Below.setCell ?_ (Nat.le_succ _) _)
            exact B5.out
      · have hx : ∀ w : World, (Instr.index 9 (.string s) (I 2)).run Try.prog w = .ok (.int .u8 (b 2)) w := h.ix 2 (by decide)
        have hf : ∀ w : World, (Instr.index 9 (.string ⟨#[100, 100, 100, 100, 45, 100, 100, 45, 100, 100, 84, 100, 100, 58, 100, 100, 58, 100, 100]⟩) (I 2)).run Try.prog w = .ok (.int .u8 100) w := fun _ => by kernel_rfl
        by_cases hg : DG b 2
        · have HG := Lib.hid hg
          have e1 : decide (48 ≤ b 2) = true := by simpa using hg.1
          have e2 : decide (b 2 ≤ 57) = true := by simpa using hg.2
          clear hg
          go_wp2_with fail
          refine wp_region_grown (by kernel_rfl) (by kernel_rfl) ?_
          repeat (go_big_quiet_step (fail))
          refine wpQuiet_nil ?_
          intro wq hbq
          clear cs csx hx hf
          clear e1 e2
          have hS := HS.out.below hbq HS.out.lt
          have hZ := HZ.out.below hbq HZ.out.lt
          have hB := Lib.hid (HB.out.trans (hbq.mono HB.out.size))
          clear hbq
          go_wp2_with fail
          go_roundg (19 - (2 + 1))
          case measure => have := hK.out; omega
          case rel => exact ⟨2 + 1, by go_num, by omega, rfl, okAll_up OK.out (by unfold okAt; rw [if_neg (by decide), if_neg (by decide), if_neg (by decide)]; exact HG.out), hS, hZ, hB.out⟩
        · obtain ⟨rfl, rfl⟩ := HR.out.bad (fun all => by have hh := all 2 (by decide); unfold okAt at hh; rw [if_neg (by decide), if_neg (by decide), if_neg (by decide)] at hh; exact hg hh)
          by_cases h1 : 48 ≤ b 2
          · have e1 : decide (48 ≤ b 2) = true := by simpa using h1
            have e2 : decide (b 2 ≤ 57) = false := by simp; unfold DG at hg; omega
            clear h1 hg
            go_wp2_with fail
            refine wp_region_grown (by kernel_rfl) (by kernel_rfl) ?_
            repeat (go_big_quiet_step (fail))
            refine wpQuiet_nil ?_
            intro wq hbq
            clear cs csx hx hf
            have Z5 := HZ.out.below hbq HZ.out.lt
            have B5 := Lib.hid (HB.out.trans (hbq.mono HB.out.size))
            have y50 := Z5.free 0; have y51 := Z5.free 1; have y52 := Z5.free 2; have y53 := Z5.free 3; have y54 := Z5.free 4; have y55 := Z5.free 5
            have z50 := Z5.cell 0 rfl; have z51 := Z5.cell 1 rfl; have z52 := Z5.cell 2 rfl; have z53 := Z5.cell 3 rfl; have z54 := Z5.cell 4 rfl; have z55 := Z5.cell 5 rfl
            go_wp2_with fail
            refine bodyPost_ret (v := .tuple #[.agg #[I 0, I 0, I 0, I 0, I 0, I 0], .int .i64 3]) (by simp [results, Try.results22, go_sem, z50, z51, z52, z53, z54, z55]) rfl ⟨rfl, ?_⟩
            iterate 6 (refine Below.setCell ?_ (Nat.le_succ _) _)
            exact B5.out
          · have e1 : decide (48 ≤ b 2) = false := by simpa using h1
            clear h1 hg
            go_wp2_with fail
            refine wp_region_grown (by kernel_rfl) (by kernel_rfl) ?_
            repeat (go_big_quiet_step (fail))
            refine wpQuiet_nil ?_
            intro wq hbq
            clear cs csx hx hf
            have Z5 := HZ.out.below hbq HZ.out.lt
            have B5 := Lib.hid (HB.out.trans (hbq.mono HB.out.size))
            have y50 := Z5.free 0; have y51 := Z5.free 1; have y52 := Z5.free 2; have y53 := Z5.free 3; have y54 := Z5.free 4; have y55 := Z5.free 5
            have z50 := Z5.cell 0 rfl; have z51 := Z5.cell 1 rfl; have z52 := Z5.cell 2 rfl; have z53 := Z5.cell 3 rfl; have z54 := Z5.cell 4 rfl; have z55 := Z5.cell 5 rfl
            go_wp2_with fail
            refine bodyPost_ret (v := .tuple #[.agg #[I 0, I 0, I 0, I 0, I 0, I 0], .int .i64 3]) (by simp [results, Try.results22, go_sem, z50, z51, z52, z53, z54, z55]) rfl ⟨rfl, ?_⟩
            iterate 6 (refine Below.setCell ?_ (Nat.le_succ _) _)
            exact B5.out
      · have hx : ∀ w : World, (Instr.index 9 (.string s) (I 3)).run Try.prog w = .ok (.int .u8 (b 3)) w := h.ix 3 (by decide)
        have hf : ∀ w : World, (Instr.index 9 (.string ⟨#[100, 100, 100, 100, 45, 100, 100, 45, 100, 100, 84, 100, 100, 58, 100, 100, 58, 100, 100]⟩) (I 3)).run Try.prog w = .ok (.int .u8 100) w := fun _ => by kernel_rfl
        by_cases hg : DG b 3
        · have HG := Lib.hid hg
          have e1 : decide (48 ≤ b 3) = true := by simpa using hg.1
          have e2 : decide (b 3 ≤ 57) = true := by simpa using hg.2
          clear hg
          go_wp2_with fail
          refine wp_region_grown (by kernel_rfl) (by kernel_rfl) ?_
          repeat (go_big_quiet_step (fail))
          refine wpQuiet_nil ?_
          intro wq hbq
          clear cs csx hx hf
          clear e1 e2
          have hS := HS.out.below hbq HS.out.lt
          have hZ := HZ.out.below hbq HZ.out.lt
          have hB := Lib.hid (HB.out.trans (hbq.mono HB.out.size))
          clear hbq
          go_wp2_with fail
          go_roundg (19 - (3 + 1))
          case measure => have := hK.out; omega
          case rel => exact ⟨3 + 1, by go_num, by omega, rfl, okAll_up OK.out (by unfold okAt; rw [if_neg (by decide), if_neg (by decide), if_neg (by decide)]; exact HG.out), hS, hZ, hB.out⟩
        · obtain ⟨rfl, rfl⟩ := HR.out.bad (fun all => by have hh := all 3 (by decide); unfold okAt at hh; rw [if_neg (by decide), if_neg (by decide), if_neg (by decide)] at hh; exact hg hh)
          by_cases h1 : 48 ≤ b 3
          · have e1 : decide (48 ≤ b 3) = true := by simpa using h1
            have e2 : decide (b 3 ≤ 57) = false := by simp; unfold DG at hg; omega
            clear h1 hg
            go_wp2_with fail
            refine wp_region_grown (by kernel_rfl) (by kernel_rfl) ?_
            repeat (go_big_quiet_step (fail))
            refine wpQuiet_nil ?_
            intro wq hbq
            clear cs csx hx hf
            have Z5 := HZ.out.below hbq HZ.out.lt
            have B5 := Lib.hid (HB.out.trans (hbq.mono HB.out.size))
            have y50 := Z5.free 0; have y51 := Z5.free 1; have y52 := Z5.free 2; have y53 := Z5.free 3; have y54 := Z5.free 4; have y55 := Z5.free 5
            have z50 := Z5.cell 0 rfl; have z51 := Z5.cell 1 rfl; have z52 := Z5.cell 2 rfl; have z53 := Z5.cell 3 rfl; have z54 := Z5.cell 4 rfl; have z55 := Z5.cell 5 rfl
            go_wp2_with fail
            refine bodyPost_ret (v := .tuple #[.agg #[I 0, I 0, I 0, I 0, I 0, I 0], .int .i64 3]) (by simp [results, Try.results22, go_sem, z50, z51, z52, z53, z54, z55]) rfl ⟨rfl, ?_⟩
            iterate 6 (refine Below.setCell ?_ (Nat.le_succ _) _)
            exact B5.out
          · have e1 : decide (48 ≤ b 3) = false := by simpa using h1
            clear h1 hg
            go_wp2_with fail
            refine wp_region_grown (by kernel_rfl) (by kernel_rfl) ?_
            repeat (go_big_quiet_step (fail))
            refine wpQuiet_nil ?_
            intro wq hbq
            clear cs csx hx hf
            have Z5 := HZ.out.below hbq HZ.out.lt
            have B5 := Lib.hid (HB.out.trans (hbq.mono HB.out.size))
            have y50 := Z5.free 0; have y51 := Z5.free 1; have y52 := Z5.free 2; have y53 := Z5.free 3; have y54 := Z5.free 4; have y55 := Z5.free 5
            have z50 := Z5.cell 0 rfl; have z51 := Z5.cell 1 rfl; have z52 := Z5.cell 2 rfl; have z53 := Z5.cell 3 rfl; have z54 := Z5.cell 4 rfl; have z55 := Z5.cell 5 rfl
            go_wp2_with fail
            refine bodyPost_ret (v := .tuple #[.agg #[I 0, I 0, I 0, I 0, I 0, I 0], .int .i64 3]) (by simp [results, Try.results22, go_sem, z50, z51, z52, z53, z54, z55]) rfl ⟨rfl, ?_⟩
            iterate 6 (refine Below.setCell ?_ (Nat.le_succ _) _)
            exact B5.out
      · have hx : ∀ w : World, (Instr.index 9 (.string s) (I 4)).run Try.prog w = .ok (.int .u8 (b 4)) w := h.ix 4 (by decide)
        have hf : ∀ w : World, (Instr.index 9 (.string ⟨#[100, 100, 100, 100, 45, 100, 100, 45, 100, 100, 84, 100, 100, 58, 100, 100, 58, 100, 100]⟩) (I 4)).run Try.prog w = .ok (.int .u8 45) w := fun _ => by kernel_rfl
        by_cases hg : b 4 = 45
        · have HG := Lib.hid hg
          rw [hg] at hx
          clear hg
          go_wp2_with fail
          refine wp_region_grown (by kernel_rfl) (by kernel_rfl) ?_
          repeat (go_big_quiet_step (fail))
          refine wpQuiet_nil ?_
          intro wq hbq
          clear cs csx hx hf
          have hS := HS.out.below hbq HS.out.lt
          have hZ := HZ.out.below hbq HZ.out.lt
          have hB := Lib.hid (HB.out.trans (hbq.mono HB.out.size))
          clear hbq
          go_wp2_with fail
          go_roundg (19 - (4 + 1))
          case measure => have := hK.out; omega
          case rel => exact ⟨4 + 1, by go_num, by omega, rfl, okAll_up OK.out (by unfold okAt; rw [if_pos (by decide)]; exact HG.out), hS, hZ, hB.out⟩
        · obtain ⟨rfl, rfl⟩ := HR.out.bad (fun all => by have hh := all 4 (by decide); unfold okAt at hh; rw [if_pos (by decide)] at hh; exact hg hh)
          have hne : (b 4 == 45) = false := by simpa using hg
          have hne' : (b 4 != 45) = true := by simpa using hg
          clear hg
          by_cases h1 : 48 ≤ b 4
          · have e1 : decide (48 ≤ b 4) = true := by simpa using h1
            by_cases h2 : b 4 ≤ 57
            · have e2 : decide (b 4 ≤ 57) = true := by simpa using h2
              clear h1 h2
              go_wp2_with fail
              refine wp_region_grown (by kernel_rfl) (by kernel_rfl) ?_
              repeat (go_big_quiet_step (fail))
              refine wpQuiet_nil ?_
              intro wq hbq
              clear cs csx hx hf
              have Z5 := HZ.out.below hbq HZ.out.lt
              have B5 := Lib.hid (HB.out.trans (hbq.mono HB.out.size))
              have y50 := Z5.free 0; have y51 := Z5.free 1; have y52 := Z5.free 2; have y53 := Z5.free 3; have y54 := Z5.free 4; have y55 := Z5.free 5
              have z50 := Z5.cell 0 rfl; have z51 := Z5.cell 1 rfl; have z52 := Z5.cell 2 rfl; have z53 := Z5.cell 3 rfl; have z54 := Z5.cell 4 rfl; have z55 := Z5.cell 5 rfl
              go_wp2_with fail
              refine bodyPost_ret (v := .tuple #[.agg #[I 0, I 0, I 0, I 0, I 0, I 0], .int .i64 3]) (by simp [results, Try.results22, go_sem, z50, z51, z52, z53, z54, z55]) rfl ⟨rfl, ?_⟩
              iterate 6 (refine Below.setCell ?_ (Nat.le_succ _) _)
              exact B5.out
            · have e2 : decide (b 4 ≤ 57) = false := by simpa using h2
              clear h1 h2
              go_wp2_with fail
              refine wp_region_grown (by kernel_rfl) (by kernel_rfl) ?_
              repeat (go_big_quiet_step (fail))
              refine wpQuiet_nil ?_
              intro wq hbq
              clear cs csx hx hf
              have Z5 := HZ.out.below hbq HZ.out.lt
              have B5 := Lib.hid (HB.out.trans (hbq.mono HB.out.size))
              have y50 := Z5.free 0; have y51 := Z5.free 1; have y52 := Z5.free 2; have y53 := Z5.free 3; have y54 := Z5.free 4; have y55 := Z5.free 5
              have z50 := Z5.cell 0 rfl; have z51 := Z5.cell 1 rfl; have z52 := Z5.cell 2 rfl; have z53 := Z5.cell 3 rfl; have z54 := Z5.cell 4 rfl; have z55 := Z5.cell 5 rfl
              go_wp2_with fail
              refine bodyPost_ret (v := .tuple #[.agg #[I 0, I 0, I 0, I 0, I 0, I 0], .int .i64 3]) (by simp [results, Try.results22, go_sem, z50, z51, z52, z53, z54, z55]) rfl ⟨rfl, ?_⟩
              iterate 6 (refine Below.setCell ?_ (Nat.le_succ _) _)
              exact B5.out
          · have e1 : decide (48 ≤ b 4) = false := by simpa using h1
            clear h1
            go_wp2_with fail
            refine wp_region_grown (by kernel_rfl) (by kernel_rfl) ?_
            repeat (go_big_quiet_step (fail))
            refine wpQuiet_nil ?_
            intro wq hbq
            clear cs csx hx hf
            have Z5 := HZ.out.below hbq HZ.out.lt
            have B5 := Lib.hid (HB.out.trans (hbq.mono HB.out.size))
            have y50 := Z5.free 0; have y51 := Z5.free 1; have y52 := Z5.free 2; have y53 := Z5.free 3; have y54 := Z5.free 4; have y55 := Z5.free 5
            have z50 := Z5.cell 0 rfl; have z51 := Z5.cell 1 rfl; have z52 := Z5.cell 2 rfl; have z53 := Z5.cell 3 rfl; have z54 := Z5.cell 4 rfl; have z55 := Z5.cell 5 rfl
            go_wp2_with fail
            refine bodyPost_ret (v := .tuple #[.agg #[I 0, I 0, I 0, I 0, I 0, I 0], .int .i64 3]) (by simp [results, Try.results22, go_sem, z50, z51, z52, z53, z54, z55]) rfl ⟨rfl, ?_⟩
            iterate 6 (refine Below.setCell ?_ (Nat.le_succ _) _)
            exact B5.out
      · have hx : ∀ w : World, (Instr.index 9 (.string s) (I 5)).run Try.prog w = .ok (.int .u8 (b 5)) w := h.ix 5 (by decide)
        have hf : ∀ w : World, (Instr.index 9 (.string ⟨#[100, 100, 100, 100, 45, 100, 100, 45, 100, 100, 84, 100, 100, 58, 100, 100, 58, 100, 100]⟩) (I 5)).run Try.prog w = .ok (.int .u8 100) w := fun _ => by kernel_rfl
        by_cases hg : DG b 5
        · have HG := Lib.hid hg
          have e1 : decide (48 ≤ b 5) = true := by simpa using hg.1
          have e2 : decide (b 5 ≤ 57) = true := by simpa using hg.2
          clear hg
          go_wp2_with fail
          refine wp_region_grown (by kernel_rfl) (by kernel_rfl) ?_
          repeat (go_big_quiet_step (fail))
          refine wpQuiet_nil ?_
          intro wq hbq
          clear cs csx hx hf
          clear e1 e2
          have hS := HS.out.below hbq HS.out.lt
          have hZ := HZ.out.below hbq HZ.out.lt
          have hB := Lib.hid (HB.out.trans (hbq.mono HB.out.size))
          clear hbq
          go_wp2_with fail
          go_roundg (19 - (5 + 1))
          case measure => have := hK.out; omega
          case rel => exact ⟨5 + 1, by go_num, by omega, rfl, okAll_up OK.out (by unfold okAt; rw [if_neg (by decide), if_neg (by decide), if_neg (by decide)]; exact HG.out), hS, hZ, hB.out⟩
        · obtain ⟨rfl, rfl⟩ := HR.out.bad (fun all => by have hh := all 5 (by decide); unfold okAt at hh; rw [if_neg (by decide), if_neg (by decide), if_neg (by decide)] at hh; exact hg hh)
          by_cases h1 : 48 ≤ b 5
          · have e1 : decide (48 ≤ b 5) = true := by simpa using h1
            have e2 : decide (b 5 ≤ 57) = false := by simp; unfold DG at hg; omega
            clear h1 hg
            go_wp2_with fail
            refine wp_region_grown (by kernel_rfl) (by kernel_rfl) ?_
            repeat (go_big_quiet_step (fail))
            refine wpQuiet_nil ?_
            intro wq hbq
            clear cs csx hx hf
            have Z5 := HZ.out.below hbq HZ.out.lt
            have B5 := Lib.hid (HB.out.trans (hbq.mono HB.out.size))
            have y50 := Z5.free 0; have y51 := Z5.free 1; have y52 := Z5.free 2; have y53 := Z5.free 3; have y54 := Z5.free 4; have y55 := Z5.free 5
            have z50 := Z5.cell 0 rfl; have z51 := Z5.cell 1 rfl; have z52 := Z5.cell 2 rfl; have z53 := Z5.cell 3 rfl; have z54 := Z5.cell 4 rfl; have z55 := Z5.cell 5 rfl
            go_wp2_with fail
            refine bodyPost_ret (v := .tuple #[.agg #[I 0, I 0, I 0, I 0, I 0, I 0], .int .i64 3]) (by simp [results, Try.results22, go_sem, z50, z51, z52, z53, z54, z55]) rfl ⟨rfl, ?_⟩
            iterate 6 (refine Below.setCell ?_ (Nat.le_succ _) _)
            exact B5.out
          · have e1 : decide (48 ≤ b 5) = false := by simpa using h1
            clear h1 hg
            go_wp2_with fail
            refine wp_region_grown (by kernel_rfl) (by kernel_rfl) ?_
            repeat (go_big_quiet_step (fail))
            refine wpQuiet_nil ?_
            intro wq hbq
            clear cs csx hx hf
            have Z5 := HZ.out.below hbq HZ.out.lt
            have B5 := Lib.hid (HB.out.trans (hbq.mono HB.out.size))
            have y50 := Z5.free 0; have y51 := Z5.free 1; have y52 := Z5.free 2; have y53 := Z5.free 3; have y54 := Z5.free 4; have y55 := Z5.free 5
            have z50 := Z5.cell 0 rfl; have z51 := Z5.cell 1 rfl; have z52 := Z5.cell 2 rfl; have z53 := Z5.cell 3 rfl; have z54 := Z5.cell 4 rfl; have z55 := Z5.cell 5 rfl
            go_wp2_with fail
            refine bodyPost_ret (v := .tuple #[.agg #[I 0, I 0, I 0, I 0, I 0, I 0], .int .i64 3]) (by simp [results, Try.results22, go_sem, z50, z51, z52, z53, z54, z55]) rfl ⟨rfl, ?_⟩
            iterate 6 (refine Below.setCell ?_ (Nat.le_succ _) _)
            exact B5.out
      · have hx : ∀ w : World, (Instr.index 9 (.string s) (I 6)).run Try.prog w = .ok (.int .u8 (b 6)) w := h.ix 6 (by decide)
        have hf : ∀ w : World, (Instr.index 9 (.string ⟨#[100, 100, 100, 100, 45, 100, 100, 45, 100, 100, 84, 100, 100, 58, 100, 100, 58, 100, 100]⟩) (I 6)).run Try.prog w = .ok (.int .u8 100) w := fun _ => by kernel_rfl
        by_cases hg : DG b 6
        · have HG := Lib.hid hg
          have e1 : decide (48 ≤ b 6) = true := by simpa using hg.1
          have e2 : decide (b 6 ≤ 57) = true := by simpa using hg.2
          clear hg
          go_wp2_with fail
          refine wp_region_grown (by kernel_rfl) (by kernel_rfl) ?_
          repeat (go_big_quiet_step (fail))
          refine wpQuiet_nil ?_
          intro wq hbq
          clear cs csx hx hf
          clear e1 e2
          have hS := HS.out.below hbq HS.out.lt
          have hZ := HZ.out.below hbq HZ.out.lt
          have hB := Lib.hid (HB.out.trans (hbq.mono HB.out.size))
          clear hbq
          go_wp2_with fail
          go_roundg (19 - (6 + 1))
          case measure => have := hK.out; omega
          case rel => exact ⟨6 + 1, by go_num, by omega, rfl, okAll_up OK.out (by unfold okAt; rw [if_neg (by decide), if_neg (by decide), if_neg (by decide)]; exact HG.out), hS, hZ, hB.out⟩
        · obtain ⟨rfl, rfl⟩ := HR.out.bad (fun all => by have hh := all 6 (by decide); unfold okAt at hh; rw [if_neg (by decide), if_neg (by decide), if_neg (by decide)] at hh; exact hg hh)
          by_cases h1 : 48 ≤ b 6
          · have e1 : decide (48 ≤ b 6) = true := by simpa using h1
            have e2 : decide (b 6 ≤ 57) = false := by simp; unfold DG at hg; omega
            clear h1 hg
            go_wp2_with fail
            refine wp_region_grown (by kernel_rfl) (by kernel_rfl) ?_
            repeat (go_big_quiet_step (fail))
            refine wpQuiet_nil ?_
            intro wq hbq
            clear cs csx hx hf
            have Z5 := HZ.out.below hbq HZ.out.lt
            have B5 := Lib.hid (HB.out.trans (hbq.mono HB.out.size))
            have y50 := Z5.free 0; have y51 := Z5.free 1; have y52 := Z5.free 2; have y53 := Z5.free 3; have y54 := Z5.free 4; have y55 := Z5.free 5
            have z50 := Z5.cell 0 rfl; have z51 := Z5.cell 1 rfl; have z52 := Z5.cell 2 rfl; have z53 := Z5.cell 3 rfl; have z54 := Z5.cell 4 rfl; have z55 := Z5.cell 5 rfl
            go_wp2_with fail
            refine bodyPost_ret (v := .tuple #[.agg #[I 0, I 0, I 0, I 0, I 0, I 0], .int .i64 3]) (by simp [results, Try.results22, go_sem, z50, z51, z52, z53, z54, z55]) rfl ⟨rfl, ?_⟩
            iterate 6 (refine Below.setCell ?_ (Nat.le_succ _) _)
            exact B5.out
          · have e1 : decide (48 ≤ b 6) = false := by simpa using h1
            clear h1 hg
            go_wp2_with fail
            refine wp_region_grown (by kernel_rfl) (by kernel_rfl) ?_
            repeat (go_big_quiet_step (fail))
            refine wpQuiet_nil ?_
            intro wq hbq
            clear cs csx hx hf
            have Z5 := HZ.out.below hbq HZ.out.lt
            have B5 := Lib.hid (HB.out.trans (hbq.mono HB.out.size))
            have y50 := Z5.free 0; have y51 := Z5.free 1; have y52 := Z5.free 2; have y53 := Z5.free 3; have y54 := Z5.free 4; have y55 := Z5.free 5
            have z50 := Z5.cell 0 rfl; have z51 := Z5.cell 1 rfl; have z52 := Z5.cell 2 rfl; have z53 := Z5.cell 3 rfl; have z54 := Z5.cell 4 rfl; have z55 := Z5.cell 5 rfl
            go_wp2_with fail
            refine bodyPost_ret (v := .tuple #[.agg #[I 0, I 0, I 0, I 0, I 0, I 0], .int .i64 3]) (by simp [results, Try.results22, go_sem, z50, z51, z52, z53, z54, z55]) rfl ⟨rfl, ?_⟩
            iterate 6 (refine Below.setCell ?_ (Nat.le_succ _) _)
            exact B5.out
      · have hx : ∀ w : World, (Instr.index 9 (.string s) (I 7)).run Try.prog w = .ok (.int .u8 (b 7)) w := h.ix 7 (by decide)
        have hf : ∀ w : World, (Instr.index 9 (.string ⟨#[100, 100, 100, 100, 45, 100, 100, 45, 100, 100, 84, 100, 100, 58, 100, 100, 58, 100, 100]⟩) (I 7)).run Try.prog w = .ok (.int .u8 45) w := fun _ => by kernel_rfl
        by_cases hg : b 7 = 45
        · have HG := Lib.hid hg
          rw [hg] at hx
          clear hg
          go_wp2_with fail
          refine wp_region_grown (by kernel_rfl) (by kernel_rfl) ?_
          repeat (go_big_quiet_step (fail))
          refine wpQuiet_nil ?_
          intro wq hbq
          clear cs csx hx hf
          have hS := HS.out.below hbq HS.out.lt
          have hZ := HZ.out.below hbq HZ.out.lt
          have hB := Lib.hid (HB.out.trans (hbq.mono HB.out.size))
          clear hbq
          go_wp2_with fail
          go_roundg (19 - (7 + 1))
          case measure => have := hK.out; omega
          case rel => exact ⟨7 + 1, by go_num, by omega, rfl, okAll_up OK.out (by unfold okAt; rw [if_pos (by decide)]; exact HG.out), hS, hZ, hB.out⟩
        · obtain ⟨rfl, rfl⟩ := HR.out.bad (fun all => by have hh := all 7 (by decide); unfold okAt at hh; rw [if_pos (by decide)] at hh; exact hg hh)
          have hne : (b 7 == 45) = false := by simpa using hg
          have hne' : (b 7 != 45) = true := by simpa using hg
          clear hg
          by_cases h1 : 48 ≤ b 7
          · have e1 : decide (48 ≤ b 7) = true := by simpa using h1
            by_cases h2 : b 7 ≤ 57
            · have e2 : decide (b 7 ≤ 57) = true := by simpa using h2
              clear h1 h2
              go_wp2_with fail
              refine wp_region_grown (by kernel_rfl) (by kernel_rfl) ?_
              repeat (go_big_quiet_step (fail))
              refine wpQuiet_nil ?_
              intro wq hbq
              clear cs csx hx hf
              have Z5 := HZ.out.below hbq HZ.out.lt
              have B5 := Lib.hid (HB.out.trans (hbq.mono HB.out.size))
              have y50 := Z5.free 0; have y51 := Z5.free 1; have y52 := Z5.free 2; have y53 := Z5.free 3; have y54 := Z5.free 4; have y55 := Z5.free 5
              have z50 := Z5.cell 0 rfl; have z51 := Z5.cell 1 rfl; have z52 := Z5.cell 2 rfl; have z53 := Z5.cell 3 rfl; have z54 := Z5.cell 4 rfl; have z55 := Z5.cell 5 rfl
              go_wp2_with fail
              refine bodyPost_ret (v := .tuple #[.agg #[I 0, I 0, I 0, I 0, I 0, I 0], .int .i64 3]) (by simp [results, Try.results22, go_sem, z50, z51, z52, z53, z54, z55]) rfl ⟨rfl, ?_⟩
              iterate 6 (refine Below.setCell ?_ (Nat.le_succ _) _)
              exact B5.out
            · have e2 : decide (b 7 ≤ 57) = false := by simpa using h2
              clear h1 h2
              go_wp2_with fail
              refine wp_region_grown (by kernel_rfl) (by kernel_rfl) ?_
              repeat (go_big_quiet_step (fail))
              refine wpQuiet_nil ?_
              intro wq hbq
              clear cs csx hx hf
              have Z5 := HZ.out.below hbq HZ.out.lt
              have B5 := Lib.hid (HB.out.trans (hbq.mono HB.out.size))
              have y50 := Z5.free 0; have y51 := Z5.free 1; have y52 := Z5.free 2; have y53 := Z5.free 3; have y54 := Z5.free 4; have y55 := Z5.free 5
              have z50 := Z5.cell 0 rfl; have z51 := Z5.cell 1 rfl; have z52 := Z5.cell 2 rfl; have z53 := Z5.cell 3 rfl; have z54 := Z5.cell 4 rfl; have z55 := Z5.cell 5 rfl
              go_wp2_with fail
              refine bodyPost_ret (v := .tuple #[.agg #[I 0, I 0, I 0, I 0, I 0, I 0], .int .i64 3]) (by simp [results, Try.results22, go_sem, z50, z51, z52, z53, z54, z55]) rfl ⟨rfl, ?_⟩
              iterate 6 (refine Below.setCell ?_ (Nat.le_succ _) _)
              exact B5.out
          · have e1 : decide (48 ≤ b 7) = false := by simpa using h1
            clear h1
            go_wp2_with fail
            refine wp_region_grown (by kernel_rfl) (by kernel_rfl) ?_
            repeat (go_big_quiet_step (fail))
            refine wpQuiet_nil ?_
            intro wq hbq
            clear cs csx hx hf
            have Z5 := HZ.out.below hbq HZ.out.lt
            have B5 := Lib.hid (HB.out.trans (hbq.mono HB.out.size))
            have y50 := Z5.free 0; have y51 := Z5.free 1; have y52 := Z5.free 2; have y53 := Z5.free 3; have y54 := Z5.free 4; have y55 := Z5.free 5
            have z50 := Z5.cell 0 rfl; have z51 := Z5.cell 1 rfl; have z52 := Z5.cell 2 rfl; have z53 := Z5.cell 3 rfl; have z54 := Z5.cell 4 rfl; have z55 := Z5.cell 5 rfl
            go_wp2_with fail
            refine bodyPost_ret (v := .tuple #[.agg #[I 0, I 0, I 0, I 0, I 0, I 0], .int .i64 3]) (by simp [results, Try.results22, go_sem, z50, z51, z52, z53, z54, z55]) rfl ⟨rfl, ?_⟩
            iterate 6 (refine Below.setCell ?_ (Nat.le_succ _) _)
            exact B5.out
      · have hx : ∀ w : World, (Instr.index 9 (.string s) (I 8)).run Try.prog w = .ok (.int .u8 (b 8)) w := h.ix 8 (by decide)
        have hf : ∀ w : World, (Instr.index 9 (.string ⟨#[100, 100, 100, 100, 45, 100, 100, 45, 100, 100, 84, 100, 100, 58, 100, 100, 58, 100, 100]⟩) (I 8)).run Try.prog w = .ok (.int .u8 100) w := fun _ => by kernel_rfl
        by_cases hg : DG b 8
        · have HG := Lib.hid hg
          have e1 : decide (48 ≤ b 8) = true := by simpa using hg.1
          have e2 : decide (b 8 ≤ 57) = true := by simpa using hg.2
          clear hg
          go_wp2_with fail
          refine wp_region_grown (by kernel_rfl) (by kernel_rfl) ?_
          repeat (go_big_quiet_step (fail))
          refine wpQuiet_nil ?_
          intro wq hbq
          clear cs csx hx hf
          clear e1 e2
          have hS := HS.out.below hbq HS.out.lt
          have hZ := HZ.out.below hbq HZ.out.lt
          have hB := Lib.hid (HB.out.trans (hbq.mono HB.out.size))
          clear hbq
          go_wp2_with fail
          go_roundg (19 - (8 + 1))
          case measure => have := hK.out; omega
          case rel => exact ⟨8 + 1, by go_num, by omega, rfl, okAll_up OK.out (by unfold okAt; rw [if_neg (by decide), if_neg (by decide), if_neg (by decide)]; exact HG.out), hS, hZ, hB.out⟩
        · obtain ⟨rfl, rfl⟩ := HR.out.bad (fun all => by have hh := all 8 (by decide); unfold okAt at hh; rw [if_neg (by decide), if_neg (by decide), if_neg (by decide)] at hh; exact hg hh)
          by_cases h1 : 48 ≤ b 8
          · have e1 : decide (48 ≤ b 8) = true := by simpa using h1
            have e2 : decide (b 8 ≤ 57) = false := by simp; unfold DG at hg; omega
            clear h1 hg
            go_wp2_with fail
            refine wp_region_grown (by kernel_rfl) (by kernel_rfl) ?_
            repeat (go_big_quiet_step (fail))
            refine wpQuiet_nil ?_
            intro wq hbq
            clear cs csx hx hf
            have Z5 := HZ.out.below hbq HZ.out.lt
            have B5 := Lib.hid (HB.out.trans (hbq.mono HB.out.size))
            have y50 := Z5.free 0; have y51 := Z5.free 1; have y52 := Z5.free 2; have y53 := Z5.free 3; have y54 := Z5.free 4; have y55 := Z5.free 5
            have z50 := Z5.cell 0 rfl; have z51 := Z5.cell 1 rfl; have z52 := Z5.cell 2 rfl; have z53 := Z5.cell 3 rfl; have z54 := Z5.cell 4 rfl; have z55 := Z5.cell 5 rfl
            go_wp2_with fail
            refine bodyPost_ret (v := .tuple #[.agg #[I 0, I 0, I 0, I 0, I 0, I 0], .int .i64 3]) (by simp [results, Try.results22, go_sem, z50, z51, z52, z53, z54, z55]) rfl ⟨rfl, ?_⟩
            iterate 6 (refine Below.setCell ?_ (Nat.le_succ _) _)
            exact B5.out
          · have e1 : decide (48 ≤ b 8) = false := by simpa using h1
            clear h1 hg
            go_wp2_with fail
            refine wp_region_grown (by kernel_rfl) (by kernel_rfl) ?_
            repeat (go_big_quiet_step (fail))
            refine wpQuiet_nil ?_
            intro wq hbq
            clear cs csx hx hf
            have Z5 := HZ.out.below hbq HZ.out.lt
            have B5 := Lib.hid (HB.out.trans (hbq.mono HB.out.size))
            have y50 := Z5.free 0; have y51 := Z5.free 1; have y52 := Z5.free 2; have y53 := Z5.free 3; have y54 := Z5.free 4; have y55 := Z5.free 5
            have z50 := Z5.cell 0 rfl; have z51 := Z5.cell 1 rfl; have z52 := Z5.cell 2 rfl; have z53 := Z5.cell 3 rfl; have z54 := Z5.cell 4 rfl; have z55 := Z5.cell 5 rfl
            go_wp2_with fail
            refine bodyPost_ret (v := .tuple #[.agg #[I 0, I 0, I 0, I 0, I 0, I 0], .int .i64 3]) (by simp [results, Try.results22, go_sem, z50, z51, z52, z53, z54, z55]) rfl ⟨rfl, ?_⟩
            iterate 6 (refine Below.setCell ?_ (Nat.le_succ _) _)
            exact B5.out
      · have hx : ∀ w : World, (Instr.index 9 (.string s) (I 9)).run Try.prog w = .ok (.int .u8 (b 9)) w := h.ix 9 (by decide)
        have hf : ∀ w : World, (Instr.index 9 (.string ⟨#[100, 100, 100, 100, 45, 100, 100, 45, 100, 100, 84, 100, 100, 58, 100, 100, 58, 100, 100]⟩) (I 9)).run Try.prog w = .ok (.int .u8 100) w := fun _ => by kernel_rfl
        by_cases hg : DG b 9
        · have HG := Lib.hid hg
          have e1 : decide (48 ≤ b 9) = true := by simpa using hg.1
          have e2 : decide (b 9 ≤ 57) = true := by simpa using hg.2
          clear hg
          go_wp2_with fail
          refine wp_region_grown (by kernel_rfl) (by kernel_rfl) ?_
          repeat (go_big_quiet_step (fail))
          refine wpQuiet_nil ?_
          intro wq hbq
          clear cs csx hx hf
          clear e1 e2
          have hS := HS.out.below hbq HS.out.lt
          have hZ := HZ.out.below hbq HZ.out.lt
          have hB := Lib.hid (HB.out.trans (hbq.mono HB.out.size))
          clear hbq
          go_wp2_with fail
          go_roundg (19 - (9 + 1))
          case measure => have := hK.out; omega
          case rel => exact ⟨9 + 1, by go_num, by omega, rfl, okAll_up OK.out (by unfold okAt; rw [if_neg (by decide), if_neg (by decide), if_neg (by decide)]; exact HG.out), hS, hZ, hB.out⟩
        · obtain ⟨rfl, rfl⟩ := HR.out.bad (fun all => by have hh := all 9 (by decide); unfold okAt at hh; rw [if_neg (by decide), if_neg (by decide), if_neg (by decide)] at hh; exact hg hh)
          by_cases h1 : 48 ≤ b 9
          · have e1 : decide (48 ≤ b 9) = true := by simpa using h1
            have e2 : decide (b 9 ≤ 57) = false := by simp; unfold DG at hg; omega
            clear h1 hg
            go_wp2_with fail
            refine wp_region_grown (by kernel_rfl) (by kernel_rfl) ?_
            repeat (go_big_quiet_step (fail))
            refine wpQuiet_nil ?_
            intro wq hbq
            clear cs csx hx hf
            have Z5 := HZ.out.below hbq HZ.out.lt
            have B5 := Lib.hid (HB.out.trans (hbq.mono HB.out.size))
            have y50 := Z5.free 0; have y51 := Z5.free 1; have y52 := Z5.free 2; have y53 := Z5.free 3; have y54 := Z5.free 4; have y55 := Z5.free 5
            have z50 := Z5.cell 0 rfl; have z51 := Z5.cell 1 rfl; have z52 := Z5.cell 2 rfl; have z53 := Z5.cell 3 rfl; have z54 := Z5.cell 4 rfl; have z55 := Z5.cell 5 rfl
            go_wp2_with fail
            refine bodyPost_ret (v := .tuple #[.agg #[I 0, I 0, I 0, I 0, I 0, I 0], .int .i64 3]) (by simp [results, Try.results22, go_sem, z50, z51, z52, z53, z54, z55]) rfl ⟨rfl, ?_⟩
            iterate 6 (refine Below.setCell ?_ (Nat.le_succ _) _)
            exact B5.out
          · have e1 : decide (48 ≤ b 9) = false := by simpa using h1
            clear h1 hg
            go_wp2_with fail
            refine wp_region_grown (by kernel_rfl) (by kernel_rfl) ?_
            repeat (go_big_quiet_step (fail))
            refine wpQuiet_nil ?_
            intro wq hbq
            clear cs csx hx hf
            have Z5 := HZ.out.below hbq HZ.out.lt
            have B5 := Lib.hid (HB.out.trans (hbq.mono HB.out.size))
            have y50 := Z5.free 0; have y51 := Z5.free 1; have y52 := Z5.free 2; have y53 := Z5.free 3; have y54 := Z5.free 4; have y55 := Z5.free 5
            have z50 := Z5.cell 0 rfl; have z51 := Z5.cell 1 rfl; have z52 := Z5.cell 2 rfl; have z53 := Z5.cell 3 rfl; have z54 := Z5.cell 4 rfl; have z55 := Z5.cell 5 rfl
            go_wp2_with fail
            refine bodyPost_ret (v := .tuple #[.agg #[I 0, I 0, I 0, I 0, I 0, I 0], .int .i64 3]) (by simp [results, Try.results22, go_sem, z50, z51, z52, z53, z54, z55]) rfl ⟨rfl, ?_⟩
            iterate 6 (refine Below.setCell ?_ (Nat.le_succ _) _)
            exact B5.out
      · have hx : ∀ w : World, (Instr.index 9 (.string s) (I 10)).run Try.prog w = .ok (.int .u8 (b 10)) w := h.ix 10 (by decide)
        have hf : ∀ w : World, (Instr.index 9 (.string ⟨#[100, 100, 100, 100, 45, 100, 100, 45, 100, 100, 84, 100, 100, 58, 100, 100, 58, 100, 100]⟩) (I 10)).run Try.prog w = .ok (.int .u8 84) w := fun _ => by kernel_rfl
        by_cases hg : b 10 = 84
        · have HG := Lib.hid hg
          rw [hg] at hx
          clear hg
          go_wp2_with fail
          refine wp_region_grown (by kernel_rfl) (by kernel_rfl) ?_
          repeat (go_big_quiet_step (fail))
          refine wpQuiet_nil ?_
          intro wq hbq
          clear cs csx hx hf
          have hS := HS.out.below hbq HS.out.lt
          have hZ := HZ.out.below hbq HZ.out.lt
          have hB := Lib.hid (HB.out.trans (hbq.mono HB.out.size))
          clear hbq
          go_wp2_with fail
          go_roundg (19 - (10 + 1))
          case measure => have := hK.out; omega
          case rel => exact ⟨10 + 1, by go_num, by omega, rfl, okAll_up OK.out (by unfold okAt; rw [if_neg (by decide), if_pos (by decide)]; exact HG.out), hS, hZ, hB.out⟩
        · obtain ⟨rfl, rfl⟩ := HR.out.bad (fun all => by have hh := all 10 (by decide); unfold okAt at hh; rw [if_neg (by decide), if_pos (by decide)] at hh; exact hg hh)
          have hne : (b 10 == 84) = false := by simpa using hg
          have hne' : (b 10 != 84) = true := by simpa using hg
          clear hg
          by_cases h1 : 48 ≤ b 10
          · have e1 : decide (48 ≤ b 10) = true := by simpa using h1
            by_cases h2 : b 10 ≤ 57
            · have e2 : decide (b 10 ≤ 57) = true := by simpa using h2
              clear h1 h2
              go_wp2_with fail
              refine wp_region_grown (by kernel_rfl) (by kernel_rfl) ?_
              repeat (go_big_quiet_step (fail))
              refine wpQuiet_nil ?_
              intro wq hbq
              clear cs csx hx hf
              have Z5 := HZ.out.below hbq HZ.out.lt
              have B5 := Lib.hid (HB.out.trans (hbq.mono HB.out.size))
              have y50 := Z5.free 0; have y51 := Z5.free 1; have y52 := Z5.free 2; have y53 := Z5.free 3; have y54 := Z5.free 4; have y55 := Z5.free 5
              have z50 := Z5.cell 0 rfl; have z51 := Z5.cell 1 rfl; have z52 := Z5.cell 2 rfl; have z53 := Z5.cell 3 rfl; have z54 := Z5.cell 4 rfl; have z55 := Z5.cell 5 rfl
              go_wp2_with fail
              refine bodyPost_ret (v := .tuple #[.agg #[I 0, I 0, I 0, I 0, I 0, I 0], .int .i64 3]) (by simp [results, Try.results22, go_sem, z50, z51, z52, z53, z54, z55]) rfl ⟨rfl, ?_⟩
              iterate 6 (refine Below.setCell ?_ (Nat.le_succ _) _)
              exact B5.out
            · have e2 : decide (b 10 ≤ 57) = false := by simpa using h2
              clear h1 h2
              go_wp2_with fail
              refine wp_region_grown (by kernel_rfl) (by kernel_rfl) ?_
              repeat (go_big_quiet_step (fail))
              refine wpQuiet_nil ?_
              intro wq hbq
              clear cs csx hx hf
              have Z5 := HZ.out.below hbq HZ.out.lt
              have B5 := Lib.hid (HB.out.trans (hbq.mono HB.out.size))
              have y50 := Z5.free 0; have y51 := Z5.free 1; have y52 := Z5.free 2; have y53 := Z5.free 3; have y54 := Z5.free 4; have y55 := Z5.free 5
              have z50 := Z5.cell 0 rfl; have z51 := Z5.cell 1 rfl; have z52 := Z5.cell 2 rfl; have z53 := Z5.cell 3 rfl; have z54 := Z5.cell 4 rfl; have z55 := Z5.cell 5 rfl
              go_wp2_with fail
              refine bodyPost_ret (v := .tuple #[.agg #[I 0, I 0, I 0, I 0, I 0, I 0], .int .i64 3]) (by simp [results, Try.results22, go_sem, z50, z51, z52, z53, z54, z55]) rfl ⟨rfl, ?_⟩
              iterate 6 (refine Below.setCell ?_ (Nat.le_succ _) _)
              exact B5.out
          · have e1 : decide (48 ≤ b 10) = false := by simpa using h1
            clear h1
            go_wp2_with fail
            refine wp_region_grown (by kernel_rfl) (by kernel_rfl) ?_
            repeat (go_big_quiet_step (fail))
            refine wpQuiet_nil ?_
            intro wq hbq
            clear cs csx hx hf
            have Z5 := HZ.out.below hbq HZ.out.lt
            have B5 := Lib.hid (HB.out.trans (hbq.mono HB.out.size))
            have y50 := Z5.free 0; have y51 := Z5.free 1; have y52 := Z5.free 2; have y53 := Z5.free 3; have y54 := Z5.free 4; have y55 := Z5.free 5
            have z50 := Z5.cell 0 rfl; have z51 := Z5.cell 1 rfl; have z52 := Z5.cell 2 rfl; have z53 := Z5.cell 3 rfl; have z54 := Z5.cell 4 rfl; have z55 := Z5.cell 5 rfl
            go_wp2_with fail
            refine bodyPost_ret (v := .tuple #[.agg #[I 0, I 0, I 0, I 0, I 0, I 0], .int .i64 3]) (by simp [results, Try.results22, go_sem, z50, z51, z52, z53, z54, z55]) rfl ⟨rfl, ?_⟩
            iterate 6 (refine Below.setCell ?_ (Nat.le_succ _) _)
            exact B5.out
      · have hx : ∀ w : World, (Instr.index 9 (.string s) (I 11)).run Try.prog w = .ok (.int .u8 (b 11)) w := h.ix 11 (by decide)
        have hf : ∀ w : World, (Instr.index 9 (.string ⟨#[100, 100, 100, 100, 45, 100, 100, 45, 100, 100, 84, 100, 100, 58, 100, 100, 58, 100, 100]⟩) (I 11)).run Try.prog w = .ok (.int .u8 100) w := fun _ => by kernel_rfl
        by_cases hg : DG b 11
        · have HG := Lib.hid hg
          have e1 : decide (48 ≤ b 11) = true := by simpa using hg.1
          have e2 : decide (b 11 ≤ 57) = true := by simpa using hg.2
          clear hg
          go_wp2_with fail
          refine wp_region_grown (by kernel_rfl) (by kernel_rfl) ?_
          repeat (go_big_quiet_step (fail))
          refine wpQuiet_nil ?_
          intro wq hbq
          clear cs csx hx hf
          clear e1 e2
          have hS := HS.out.below hbq HS.out.lt
          have hZ := HZ.out.below hbq HZ.out.lt
          have hB := Lib.hid (HB.out.trans (hbq.mono HB.out.size))
          clear hbq
          go_wp2_with fail
          go_roundg (19 - (11 + 1))
          case measure => have := hK.out; omega
          case rel => exact ⟨11 + 1, by go_num, by omega, rfl, okAll_up OK.out (by unfold okAt; rw [if_neg (by decide), if_neg (by decide), if_neg (by decide)]; exact HG.out), hS, hZ, hB.out⟩
        · obtain ⟨rfl, rfl⟩ := HR.out.bad (fun all => by have hh := all 11 (by decide); unfold okAt at hh; rw [if_neg (by decide), if_neg (by decide), if_neg (by decide)] at hh; exact hg hh)
          by_cases h1 : 48 ≤ b 11
          · have e1 : decide (48 ≤ b 11) = true := by simpa using h1
            have e2 : decide (b 11 ≤ 57) = false := by simp; unfold DG at hg; omega
            clear h1 hg
            go_wp2_with fail
            refine wp_region_grown (by kernel_rfl) (by kernel_rfl) ?_
            repeat (go_big_quiet_step (fail))
            refine wpQuiet_nil ?_
            intro wq hbq
            clear cs csx hx hf
            have Z5 := HZ.out.below hbq HZ.out.lt
            have B5 := Lib.hid (HB.out.trans (hbq.mono HB.out.size))
            have y50 := Z5.free 0; have y51 := Z5.free 1; have y52 := Z5.free 2; have y53 := Z5.free 3; have y54 := Z5.free 4; have y55 := Z5.free 5
            have z50 := Z5.cell 0 rfl; have z51 := Z5.cell 1 rfl; have z52 := Z5.cell 2 rfl; have z53 := Z5.cell 3 rfl; have z54 := Z5.cell 4 rfl; have z55 := Z5.cell 5 rfl
            go_wp2_with fail
            refine bodyPost_ret (v := .tuple #[.agg #[I 0, I 0, I 0, I 0, I 0, I 0], .int .i64 3]) (by simp [results, Try.results22, go_sem, z50, z51, z52, z53, z54, z55]) rfl ⟨rfl, ?_⟩
            iterate 6 (refine Below.setCell ?_ (Nat.le_succ _) _)
            exact B5.out
          · have e1 : decide (48 ≤ b 11) = false := by simpa using h1
            clear h1 hg
            go_wp2_with fail
            refine wp_region_grown (by kernel_rfl) (by kernel_rfl) ?_
            repeat (go_big_quiet_step (fail))
            refine wpQuiet_nil ?_
            intro wq hbq
            clear cs csx hx hf
            have Z5 := HZ.out.below hbq HZ.out.lt
            have B5 := Lib.hid (HB.out.trans (hbq.mono HB.out.size))
            have y50 := Z5.free 0; have y51 := Z5.free 1; have y52 := Z5.free 2; have y53 := Z5.free 3; have y54 := Z5.free 4; have y55 := Z5.free 5
            have z50 := Z5.cell 0 rfl; have z51 := Z5.cell 1 rfl; have z52 := Z5.cell 2 rfl; have z53 := Z5.cell 3 rfl; have z54 := Z5.cell 4 rfl; have z55 := Z5.cell 5 rfl
            go_wp2_with fail
            refine bodyPost_ret (v := .tuple #[.agg #[I 0, I 0, I 0, I 0, I 0, I 0], .int .i64 3]) (by simp [results, Try.results22, go_sem, z50, z51, z52, z53, z54, z55]) rfl ⟨rfl, ?_⟩
            iterate 6 (refine Below.setCell ?_ (Nat.le_succ _) _)
            exact B5.out
      · have hx : ∀ w : World, (Instr.index 9 (.string s) (I 12)).run Try.prog w = .ok (.int .u8 (b 12)) w := h.ix 12 (by decide)
        have hf : ∀ w : World, (Instr.index 9 (.string ⟨#[100, 100, 100, 100, 45, 100, 100, 45, 100, 100, 84, 100, 100, 58, 100, 100, 58, 100, 100]⟩) (I 12)).run Try.prog w = .ok (.int .u8 100) w := fun _ => by kernel_rfl
        by_cases hg : DG b 12
        · have HG := Lib.hid hg
          have e1 : decide (48 ≤ b 12) = true := by simpa using hg.1
          have e2 : decide (b 12 ≤ 57) = true := by simpa using hg.2
          clear hg
          go_wp2_with fail
          refine wp_region_grown (by kernel_rfl) (by kernel_rfl) ?_
          repeat (go_big_quiet_step (fail))
          refine wpQuiet_nil ?_
          intro wq hbq
          clear cs csx hx hf
          clear e1 e2
          have hS := HS.out.below hbq HS.out.lt
          have hZ := HZ.out.below hbq HZ.out.lt
          have hB := Lib.hid (HB.out.trans (hbq.mono HB.out.size))
          clear hbq
          go_wp2_with fail
          go_roundg (19 - (12 + 1))
          case measure => have := hK.out; omega
          case rel => exact ⟨12 + 1, by go_num, by omega, rfl, okAll_up OK.out (by unfold okAt; rw [if_neg (by decide), if_neg (by decide), if_neg (by decide)]; exact HG.out), hS, hZ, hB.out⟩
        · obtain ⟨rfl, rfl⟩ := HR.out.bad (fun all => by have hh := all 12 (by decide); unfold okAt at hh; rw [if_neg (by decide), if_neg (by decide), if_neg (by decide)] at hh; exact hg hh)
          by_cases h1 : 48 ≤ b 12
          · have e1 : decide (48 ≤ b 12) = true := by simpa using h1
            have e2 : decide (b 12 ≤ 57) = false := by simp; unfold DG at hg; omega
            clear h1 hg
            go_wp2_with fail
            refine wp_region_grown (by kernel_rfl) (by kernel_rfl) ?_
            repeat (go_big_quiet_step (fail))
            refine wpQuiet_nil ?_
            intro wq hbq
            clear cs csx hx hf
            have Z5 := HZ.out.below hbq HZ.out.lt
            have B5 := Lib.hid (HB.out.trans (hbq.mono HB.out.size))
            have y50 := Z5.free 0; have y51 := Z5.free 1; have y52 := Z5.free 2; have y53 := Z5.free 3; have y54 := Z5.free 4; have y55 := Z5.free 5
            have z50 := Z5.cell 0 rfl; have z51 := Z5.cell 1 rfl; have z52 := Z5.cell 2 rfl; have z53 := Z5.cell 3 rfl; have z54 := Z5.cell 4 rfl; have z55 := Z5.cell 5 rfl
            go_wp2_with fail
            refine bodyPost_ret (v := .tuple #[.agg #[I 0, I 0, I 0, I 0, I 0, I 0], .int .i64 3]) (by simp [results, Try.results22, go_sem, z50, z51, z52, z53, z54, z55]) rfl ⟨rfl, ?_⟩
            iterate 6 (refine Below.setCell ?_ (Nat.le_succ _) _)
            exact B5.out
          · have e1 : decide (48 ≤ b 12) = false := by simpa using h1
            clear h1 hg
            go_wp2_with fail
            refine wp_region_grown (by kernel_rfl) (by kernel_rfl) ?_
            repeat (go_big_quiet_step (fail))
            refine wpQuiet_nil ?_
            intro wq hbq
            clear cs csx hx hf
            have Z5 := HZ.out.below hbq HZ.out.lt
            have B5 := Lib.hid (HB.out.trans (hbq.mono HB.out.size))
            have y50 := Z5.free 0; have y51 := Z5.free 1; have y52 := Z5.free 2; have y53 := Z5.free 3; have y54 := Z5.free 4; have y55 := Z5.free 5
            have z50 := Z5.cell 0 rfl; have z51 := Z5.cell 1 rfl; have z52 := Z5.cell 2 rfl; have z53 := Z5.cell 3 rfl; have z54 := Z5.cell 4 rfl; have z55 := Z5.cell 5 rfl
            go_wp2_with fail
            refine bodyPost_ret (v := .tuple #[.agg #[I 0, I 0, I 0, I 0, I 0, I 0], .int .i64 3]) (by simp [results, Try.results22, go_sem, z50, z51, z52, z53, z54, z55]) rfl ⟨rfl, ?_⟩
            iterate 6 (refine Below.setCell ?_ (Nat.le_succ _) _)
            exact B5.out
      · have hx : ∀ w : World, (Instr.index 9 (.string s) (I 13)).run Try.prog w = .ok (.int .u8 (b 13)) w := h.ix 13 (by decide)
        have hf : ∀ w : World, (Instr.index 9 (.string ⟨#[100, 100, 100, 100, 45, 100, 100, 45, 100, 100, 84, 100, 100, 58, 100, 100, 58, 100, 100]⟩) (I 13)).run Try.prog w = .ok (.int .u8 58) w := fun _ => by kernel_rfl
        by_cases hg : b 13 = 58
        · have HG := Lib.hid hg
          rw [hg] at hx
          clear hg
          go_wp2_with fail
          refine wp_region_grown (by kernel_rfl) (by kernel_rfl) ?_
          repeat (go_big_quiet_step (fail))
          refine wpQuiet_nil ?_
          intro wq hbq
          clear cs csx hx hf
          have hS := HS.out.below hbq HS.out.lt
          have hZ := HZ.out.below hbq HZ.out.lt
          have hB := Lib.hid (HB.out.trans (hbq.mono HB.out.size))
          clear hbq
          go_wp2_with fail
          go_roundg (19 - (13 + 1))
          case measure => have := hK.out; omega
          case rel => exact ⟨13 + 1, by go_num, by omega, rfl, okAll_up OK.out (by unfold okAt; rw [if_neg (by decide), if_neg (by decide), if_pos (by decide)]; exact HG.out), hS, hZ, hB.out⟩
        · obtain ⟨rfl, rfl⟩ := HR.out.bad (fun all => by have hh := all 13 (by decide); unfold okAt at hh; rw [if_neg (by decide), if_neg (by decide), if_pos (by decide)] at hh; exact hg hh)
          have hne : (b 13 == 58) = false := by simpa using hg
          have hne' : (b 13 != 58) = true := by simpa using hg
          clear hg
          by_cases h1 : 48 ≤ b 13
          · have e1 : decide (48 ≤ b 13) = true := by simpa using h1
            by_cases h2 : b 13 ≤ 57
            · have e2 : decide (b 13 ≤ 57) = true := by simpa using h2
              clear h1 h2
              go_wp2_with fail
              refine wp_region_grown (by kernel_rfl) (by kernel_rfl) ?_
              repeat (go_big_quiet_step (fail))
              refine wpQuiet_nil ?_
              intro wq hbq
              clear cs csx hx hf
              have Z5 := HZ.out.below hbq HZ.out.lt
              have B5 := Lib.hid (HB.out.trans (hbq.mono HB.out.size))
              have y50 := Z5.free 0; have y51 := Z5.free 1; have y52 := Z5.free 2; have y53 := Z5.free 3; have y54 := Z5.free 4; have y55 := Z5.free 5
              have z50 := Z5.cell 0 rfl; have z51 := Z5.cell 1 rfl; have z52 := Z5.cell 2 rfl; have z53 := Z5.cell 3 rfl; have z54 := Z5.cell 4 rfl; have z55 := Z5.cell 5 rfl
              go_wp2_with fail
              refine bodyPost_ret (v := .tuple #[.agg #[I 0, I 0, I 0, I 0, I 0, I 0], .int .i64 3]) (by simp [results, Try.results22, go_sem, z50, z51, z52, z53, z54, z55]) rfl ⟨rfl, ?_⟩
              iterate 6 (refine Below.setCell ?_ (Nat.le_succ _) _)
              exact B5.out
            · have e2 : decide (b 13 ≤ 57) = false := by simpa using h2
              clear h1 h2
              go_wp2_with fail
              refine wp_region_grown (by kernel_rfl) (by kernel_rfl) ?_
              repeat (go_big_quiet_step (fail))
              refine wpQuiet_nil ?_
              intro wq hbq
              clear cs csx hx hf
              have Z5 := HZ.out.below hbq HZ.out.lt
              have B5 := Lib.hid (HB.out.trans (hbq.mono HB.out.size))
              have y50 := Z5.free 0; have y51 := Z5.free 1; have y52 := Z5.free 2; have y53 := Z5.free 3; have y54 := Z5.free 4; have y55 := Z5.free 5
              have z50 := Z5.cell 0 rfl; have z51 := Z5.cell 1 rfl; have z52 := Z5.cell 2 rfl; have z53 := Z5.cell 3 rfl; have z54 := Z5.cell 4 rfl; have z55 := Z5.cell 5 rfl
              go_wp2_with fail
              refine bodyPost_ret (v := .tuple #[.agg #[I 0, I 0, I 0, I 0, I 0, I 0], .int .i64 3]) (by simp [results, Try.results22, go_sem, z50, z51, z52, z53, z54, z55]) rfl ⟨rfl, ?_⟩
              iterate 6 (refine Below.setCell ?_ (Nat.le_succ _) _)
              exact B5.out
          · have e1 : decide (48 ≤ b 13) = false := by simpa using h1
            clear h1
            go_wp2_with fail
            refine wp_region_grown (by kernel_rfl) (by kernel_rfl) ?_
            repeat (go_big_quiet_step (fail))
            refine wpQuiet_nil ?_
            intro wq hbq
            clear cs csx hx hf
            have Z5 := HZ.out.below hbq HZ.out.lt
            have B5 := Lib.hid (HB.out.trans (hbq.mono HB.out.size))
            have y50 := Z5.free 0; have y51 := Z5.free 1; have y52 := Z5.free 2; have y53 := Z5.free 3; have y54 := Z5.free 4; have y55 := Z5.free 5
            have z50 := Z5.cell 0 rfl; have z51 := Z5.cell 1 rfl; have z52 := Z5.cell 2 rfl; have z53 := Z5.cell 3 rfl; have z54 := Z5.cell 4 rfl; have z55 := Z5.cell 5 rfl
            go_wp2_with fail
            refine bodyPost_ret (v := .tuple #[.agg #[I 0, I 0, I 0, I 0, I 0, I 0], .int .i64 3]) (by simp [results, Try.results22, go_sem, z50, z51, z52, z53, z54, z55]) rfl ⟨rfl, ?_⟩
            iterate 6 (refine Below.setCell ?_ (Nat.le_succ _) _)
            exact B5.out
      · have hx : ∀ w : World, (Instr.index 9 (.string s) (I 14)).run Try.prog w = .ok (.int .u8 (b 14)) w := h.ix 14 (by decide)
        have hf : ∀ w : World, (Instr.index 9 (.string ⟨#[100, 100, 100, 100, 45, 100, 100, 45, 100, 100, 84, 100, 100, 58, 100, 100, 58, 100, 100]⟩) (I 14)).run Try.prog w = .ok (.int .u8 100) w := fun _ => by kernel_rfl
        by_cases hg : DG b 14
        · have HG := Lib.hid hg
          have e1 : decide (48 ≤ b 14) = true := by simpa using hg.1
          have e2 : decide (b 14 ≤ 57) = true := by simpa using hg.2
          clear hg
          go_wp2_with fail
          refine wp_region_grown (by kernel_rfl) (by kernel_rfl) ?_
          repeat (go_big_quiet_step (fail))
          refine wpQuiet_nil ?_
          intro wq hbq
          clear cs csx hx hf
          clear e1 e2
          have hS := HS.out.below hbq HS.out.lt
          have hZ := HZ.out.below hbq HZ.out.lt
          have hB := Lib.hid (HB.out.trans (hbq.mono HB.out.size))
          clear hbq
          go_wp2_with fail
          go_roundg (19 - (14 + 1))
          case measure => have := hK.out; omega
          case rel => exact ⟨14 + 1, by go_num, by omega, rfl, okAll_up OK.out (by unfold okAt; rw [if_neg (by decide), if_neg (by decide), if_neg (by decide)]; exact HG.out), hS, hZ, hB.out⟩
        · obtain ⟨rfl, rfl⟩ := HR.out.bad (fun all => by have hh := all 14 (by decide); unfold okAt at hh; rw [if_neg (by decide), if_neg (by decide), if_neg (by decide)] at hh; exact hg hh)
          by_cases h1 : 48 ≤ b 14
          · have e1 : decide (48 ≤ b 14) = true := by simpa using h1
            have e2 : decide (b 14 ≤ 57) = false := by simp; unfold DG at hg; omega
            clear h1 hg
            go_wp2_with fail
            refine wp_region_grown (by kernel_rfl) (by kernel_rfl) ?_
            repeat (go_big_quiet_step (fail))
            refine wpQuiet_nil ?_
            intro wq hbq
            clear cs csx hx hf
            have Z5 := HZ.out.below hbq HZ.out.lt
            have B5 := Lib.hid (HB.out.trans (hbq.mono HB.out.size))
            have y50 := Z5.free 0; have y51 := Z5.free 1; have y52 := Z5.free 2; have y53 := Z5.free 3; have y54 := Z5.free 4; have y55 := Z5.free 5
            have z50 := Z5.cell 0 rfl; have z51 := Z5.cell 1 rfl; have z52 := Z5.cell 2 rfl; have z53 := Z5.cell 3 rfl; have z54 := Z5.cell 4 rfl; have z55 := Z5.cell 5 rfl
            go_wp2_with fail
            refine bodyPost_ret (v := .tuple #[.agg #[I 0, I 0, I 0, I 0, I 0, I 0], .int .i64 3]) (by simp [results, Try.results22, go_sem, z50, z51, z52, z53, z54, z55]) rfl ⟨rfl, ?_⟩
            iterate 6 (refine Below.setCell ?_ (Nat.le_succ _) _)
            exact B5.out
          · have e1 : decide (48 ≤ b 14) = false := by simpa using h1
            clear h1 hg
            go_wp2_with fail
            refine wp_region_grown (by kernel_rfl) (by kernel_rfl) ?_
            repeat (go_big_quiet_step (fail))
            refine wpQuiet_nil ?_
            intro wq hbq
            clear cs csx hx hf
            have Z5 := HZ.out.below hbq HZ.out.lt
            have B5 := Lib.hid (HB.out.trans (hbq.mono HB.out.size))
            have y50 := Z5.free 0; have y51 := Z5.free 1; have y52 := Z5.free 2; have y53 := Z5.free 3; have y54 := Z5.free 4; have y55 := Z5.free 5
            have z50 := Z5.cell 0 rfl; have z51 := Z5.cell 1 rfl; have z52 := Z5.cell 2 rfl; have z53 := Z5.cell 3 rfl; have z54 := Z5.cell 4 rfl; have z55 := Z5.cell 5 rfl
            go_wp2_with fail
            refine bodyPost_ret (v := .tuple #[.agg #[I 0, I 0, I 0, I 0, I 0, I 0], .int .i64 3]) (by simp [results, Try.results22, go_sem, z50, z51, z52, z53, z54, z55]) rfl ⟨rfl, ?_⟩
            iterate 6 (refine Below.setCell ?_ (Nat.le_succ _) _)
            exact B5.out
      · have hx : ∀ w : World, (Instr.index 9 (.string s) (I 15)).run Try.prog w = .ok (.int .u8 (b 15)) w := h.ix 15 (by decide)
        have hf : ∀ w : World, (Instr.index 9 (.string ⟨#[100, 100, 100, 100, 45, 100, 100, 45, 100, 100, 84, 100, 100, 58, 100, 100, 58, 100, 100]⟩) (I 15)).run Try.prog w = .ok (.int .u8 100) w := fun _ => by kernel_rfl
        by_cases hg : DG b 15
        · have HG := Lib.hid hg
          have e1 : decide (48 ≤ b 15) = true := by simpa using hg.1
          have e2 : decide (b 15 ≤ 57) = true := by simpa using hg.2
          clear hg
          go_wp2_with fail
          refine wp_region_grown (by kernel_rfl) (by kernel_rfl) ?_
          repeat (go_big_quiet_step (fail))
          refine wpQuiet_nil ?_
          intro wq hbq
          clear cs csx hx hf
          clear e1 e2
          have hS := HS.out.below hbq HS.out.lt
          have hZ := HZ.out.below hbq HZ.out.lt
          have hB := Lib.hid (HB.out.trans (hbq.mono HB.out.size))
          clear hbq
          go_wp2_with fail
          go_roundg (19 - (15 + 1))
          case measure => have := hK.out; omega
          case rel => exact ⟨15 + 1, by go_num, by omega, rfl, okAll_up OK.out (by unfold okAt; rw [if_neg (by decide), if_neg (by decide), if_neg (by decide)]; exact HG.out), hS, hZ, hB.out⟩
        · obtain ⟨rfl, rfl⟩ := HR.out.bad (fun all => by have hh := all 15 (by decide); unfold okAt at hh; rw [if_neg (by decide), if_neg (by decide), if_neg (by decide)] at hh; exact hg hh)
          by_cases h1 : 48 ≤ b 15
          · have e1 : decide (48 ≤ b 15) = true := by simpa using h1
            have e2 : decide (b 15 ≤ 57) = false := by simp; unfold DG at hg; omega
            clear h1 hg
            go_wp2_with fail
            refine wp_region_grown (by kernel_rfl) (by kernel_rfl) ?_
            repeat (go_big_quiet_step (fail))
            refine wpQuiet_nil ?_
            intro wq hbq
            clear cs csx hx hf
            have Z5 := HZ.out.below hbq HZ.out.lt
            have B5 := Lib.hid (HB.out.trans (hbq.mono HB.out.size))
            have y50 := Z5.free 0; have y51 := Z5.free 1; have y52 := Z5.free 2; have y53 := Z5.free 3; have y54 := Z5.free 4; have y55 := Z5.free 5
            have z50 := Z5.cell 0 rfl; have z51 := Z5.cell 1 rfl; have z52 := Z5.cell 2 rfl; have z53 := Z5.cell 3 rfl; have z54 := Z5.cell 4 rfl; have z55 := Z5.cell 5 rfl
            go_wp2_with fail
            refine bodyPost_ret (v := .tuple #[.agg #[I 0, I 0, I 0, I 0, I 0, I 0], .int .i64 3]) (by simp [results, Try.results22, go_sem, z50, z51, z52, z53, z54, z55]) rfl ⟨rfl, ?_⟩
            iterate 6 (refine Below.setCell ?_ (Nat.le_succ _) _)
            exact B5.out
          · have e1 : decide (48 ≤ b 15) = false := by simpa using h1
            clear h1 hg
            go_wp2_with fail
            refine wp_region_grown (by kernel_rfl) (by kernel_rfl) ?_
            repeat (go_big_quiet_step (fail))
            refine wpQuiet_nil ?_
            intro wq hbq
            clear cs csx hx hf
            have Z5 := HZ.out.below hbq HZ.out.lt
            have B5 := Lib.hid (HB.out.trans (hbq.mono HB.out.size))
            have y50 := Z5.free 0; have y51 := Z5.free 1; have y52 := Z5.free 2; have y53 := Z5.free 3; have y54 := Z5.free 4; have y55 := Z5.free 5
            have z50 := Z5.cell 0 rfl; have z51 := Z5.cell 1 rfl; have z52 := Z5.cell 2 rfl; have z53 := Z5.cell 3 rfl; have z54 := Z5.cell 4 rfl; have z55 := Z5.cell 5 rfl
            go_wp2_with fail
            refine bodyPost_ret (v := .tuple #[.agg #[I 0, I 0, I 0, I 0, I 0, I 0], .int .i64 3]) (by simp [results, Try.results22, go_sem, z50, z51, z52, z53, z54, z55]) rfl ⟨rfl, ?_⟩
            iterate 6 (refine Below.setCell ?_ (Nat.le_succ _) _)
            exact B5.out
      · have hx : ∀ w : World, (Instr.index 9 (.string s) (I 16)).run Try.prog w = .ok (.int .u8 (b 16)) w := h.ix 16 (by decide)
        have hf : ∀ w : World, (Instr.index 9 (.string ⟨#[100, 100, 100, 100, 45, 100, 100, 45, 100, 100, 84, 100, 100, 58, 100, 100, 58, 100, 100]⟩) (I 16)).run Try.prog w = .ok (.int .u8 58) w := fun _ => by kernel_rfl
        by_cases hg : b 16 = 58
        · have HG := Lib.hid hg
          rw [hg] at hx
          clear hg
          go_wp2_with fail
          refine wp_region_grown (by kernel_rfl) (by kernel_rfl) ?_
          repeat (go_big_quiet_step (fail))
          refine wpQuiet_nil ?_
          intro wq hbq
          clear cs csx hx hf
          have hS := HS.out.below hbq HS.out.lt
          have hZ := HZ.out.below hbq HZ.out.lt
          have hB := Lib.hid (HB.out.trans (hbq.mono HB.out.size))
          clear hbq
          go_wp2_with fail
          go_roundg (19 - (16 + 1))
          case measure => have := hK.out; omega
          case rel => exact ⟨16 + 1, by go_num, by omega, rfl, okAll_up OK.out (by unfold okAt; rw [if_neg (by decide), if_neg (by decide), if_pos (by decide)]; exact HG.out), hS, hZ, hB.out⟩
        · obtain ⟨rfl, rfl⟩ := HR.out.bad (fun all => by have hh := all 16 (by decide); unfold okAt at hh; rw [if_neg (by decide), if_neg (by decide), if_pos (by decide)] at hh; exact hg hh)
          have hne : (b 16 == 58) = false := by simpa using hg
          have hne' : (b 16 != 58) = true := by simpa using hg
          clear hg
          by_cases h1 : 48 ≤ b 16
          · have e1 : decide (48 ≤ b 16) = true := by simpa using h1
            by_cases h2 : b 16 ≤ 57
            · have e2 : decide (b 16 ≤ 57) = true := by simpa using h2
              clear h1 h2
              go_wp2_with fail
              refine wp_region_grown (by kernel_rfl) (by kernel_rfl) ?_
              repeat (go_big_quiet_step (fail))
              refine wpQuiet_nil ?_
              intro wq hbq
              clear cs csx hx hf
              have Z5 := HZ.out.below hbq HZ.out.lt
              have B5 := Lib.hid (HB.out.trans (hbq.mono HB.out.size))
              have y50 := Z5.free 0; have y51 := Z5.free 1; have y52 := Z5.free 2; have y53 := Z5.free 3; have y54 := Z5.free 4; have y55 := Z5.free 5
              have z50 := Z5.cell 0 rfl; have z51 := Z5.cell 1 rfl; have z52 := Z5.cell 2 rfl; have z53 := Z5.cell 3 rfl; have z54 := Z5.cell 4 rfl; have z55 := Z5.cell 5 rfl
              go_wp2_with fail
              refine bodyPost_ret (v := .tuple #[.agg #[I 0, I 0, I 0, I 0, I 0, I 0], .int .i64 3]) (by simp [results, Try.results22, go_sem, z50, z51, z52, z53, z54, z55]) rfl ⟨rfl, ?_⟩
              iterate 6 (refine Below.setCell ?_ (Nat.le_succ _) _)
              exact B5.out
            · have e2 : decide (b 16 ≤ 57) = false := by simpa using h2
              clear h1 h2
              go_wp2_with fail
              refine wp_region_grown (by kernel_rfl) (by kernel_rfl) ?_
              repeat (go_big_quiet_step (fail))
              refine wpQuiet_nil ?_
              intro wq hbq
              clear cs csx hx hf
              have Z5 := HZ.out.below hbq HZ.out.lt
              have B5 := Lib.hid (HB.out.trans (hbq.mono HB.out.size))
              have y50 := Z5.free 0; have y51 := Z5.free 1; have y52 := Z5.free 2; have y53 := Z5.free 3; have y54 := Z5.free 4; have y55 := Z5.free 5
              have z50 := Z5.cell 0 rfl; have z51 := Z5.cell 1 rfl; have z52 := Z5.cell 2 rfl; have z53 := Z5.cell 3 rfl; have z54 := Z5.cell 4 rfl; have z55 := Z5.cell 5 rfl
              go_wp2_with fail
              refine bodyPost_ret (v := .tuple #[.agg #[I 0, I 0, I 0, I 0, I 0, I 0], .int .i64 3]) (by simp [results, Try.results22, go_sem, z50, z51, z52, z53, z54, z55]) rfl ⟨rfl, ?_⟩
              iterate 6 (refine Below.setCell ?_ (Nat.le_succ _) _)
              exact B5.out
          · have e1 : decide (48 ≤ b 16) = false := by simpa using h1
            clear h1
            go_wp2_with fail
            refine wp_region_grown (by kernel_rfl) (by kernel_rfl) ?_
            repeat (go_big_quiet_step (fail))
            refine wpQuiet_nil ?_
            intro wq hbq
            clear cs csx hx hf
            have Z5 := HZ.out.below hbq HZ.out.lt
            have B5 := Lib.hid (HB.out.trans (hbq.mono HB.out.size))
            have y50 := Z5.free 0; have y51 := Z5.free 1; have y52 := Z5.free 2; have y53 := Z5.free 3; have y54 := Z5.free 4; have y55 := Z5.free 5
            have z50 := Z5.cell 0 rfl; have z51 := Z5.cell 1 rfl; have z52 := Z5.cell 2 rfl; have z53 := Z5.cell 3 rfl; have z54 := Z5.cell 4 rfl; have z55 := Z5.cell 5 rfl
            go_wp2_with fail
            refine bodyPost_ret (v := .tuple #[.agg #[I 0, I 0, I 0, I 0, I 0, I 0], .int .i64 3]) (by simp [results, Try.results22, go_sem, z50, z51, z52, z53, z54, z55]) rfl ⟨rfl, ?_⟩
            iterate 6 (refine Below.setCell ?_ (Nat.le_succ _) _)
            exact B5.out
      · have hx : ∀ w : World, (Instr.index 9 (.string s) (I 17)).run Try.prog w = .ok (.int .u8 (b 17)) w := h.ix 17 (by decide)
        have hf : ∀ w : World, (Instr.index 9 (.string ⟨#[100, 100, 100, 100, 45, 100, 100, 45, 100, 100, 84, 100, 100, 58, 100, 100, 58, 100, 100]⟩) (I 17)).run Try.prog w = .ok (.int .u8 100) w := fun _ => by kernel_rfl
        by_cases hg : DG b 17
        · have HG := Lib.hid hg
          have e1 : decide (48 ≤ b 17) = true := by simpa using hg.1
          have e2 : decide (b 17 ≤ 57) = true := by simpa using hg.2
          clear hg
          go_wp2_with fail
          refine wp_region_grown (by kernel_rfl) (by kernel_rfl) ?_
          repeat (go_big_quiet_step (fail))
          refine wpQuiet_nil ?_
          intro wq hbq
          clear cs csx hx hf
          clear e1 e2
          have hS := HS.out.below hbq HS.out.lt
          have hZ := HZ.out.below hbq HZ.out.lt
          have hB := Lib.hid (HB.out.trans (hbq.mono HB.out.size))
          clear hbq
          go_wp2_with fail
          go_roundg (19 - (17 + 1))
          case measure => have := hK.out; omega
          case rel => exact ⟨17 + 1, by go_num, by omega, rfl, okAll_up OK.out (by unfold okAt; rw [if_neg (by decide), if_neg (by decide), if_neg (by decide)]; exact HG.out), hS, hZ, hB.out⟩
        · obtain ⟨rfl, rfl⟩ := HR.out.bad (fun all => by have hh := all 17 (by decide); unfold okAt at hh; rw [if_neg (by decide), if_neg (by decide), if_neg (by decide)] at hh; exact hg hh)
          by_cases h1 : 48 ≤ b 17
          · have e1 : decide (48 ≤ b 17) = true := by simpa using h1
            have e2 : decide (b 17 ≤ 57) = false := by simp; unfold DG at hg; omega
            clear h1 hg
            go_wp2_with fail
            refine wp_region_grown (by kernel_rfl) (by kernel_rfl) ?_
            repeat (go_big_quiet_step (fail))
            refine wpQuiet_nil ?_
            intro wq hbq
            clear cs csx hx hf
            have Z5 := HZ.out.below hbq HZ.out.lt
            have B5 := Lib.hid (HB.out.trans (hbq.mono HB.out.size))
            have y50 := Z5.free 0; have y51 := Z5.free 1; have y52 := Z5.free 2; have y53 := Z5.free 3; have y54 := Z5.free 4; have y55 := Z5.free 5
            have z50 := Z5.cell 0 rfl; have z51 := Z5.cell 1 rfl; have z52 := Z5.cell 2 rfl; have z53 := Z5.cell 3 rfl; have z54 := Z5.cell 4 rfl; have z55 := Z5.cell 5 rfl
            go_wp2_with fail
            refine bodyPost_ret (v := .tuple #[.agg #[I 0, I 0, I 0, I 0, I 0, I 0], .int .i64 3]) (by simp [results, Try.results22, go_sem, z50, z51, z52, z53, z54, z55]) rfl ⟨rfl, ?_⟩
            iterate 6 (refine Below.setCell ?_ (Nat.le_succ _) _)
            exact B5.out
          · have e1 : decide (48 ≤ b 17) = false := by simpa using h1
            clear h1 hg
            go_wp2_with fail
            refine wp_region_grown (by kernel_rfl) (by kernel_rfl) ?_
            repeat (go_big_quiet_step (fail))
            refine wpQuiet_nil ?_
            intro wq hbq
            clear cs csx hx hf
            have Z5 := HZ.out.below hbq HZ.out.lt
            have B5 := Lib.hid (HB.out.trans (hbq.mono HB.out.size))
            have y50 := Z5.free 0; have y51 := Z5.free 1; have y52 := Z5.free 2; have y53 := Z5.free 3; have y54 := Z5.free 4; have y55 := Z5.free 5
            have z50 := Z5.cell 0 rfl; have z51 := Z5.cell 1 rfl; have z52 := Z5.cell 2 rfl; have z53 := Z5.cell 3 rfl; have z54 := Z5.cell 4 rfl; have z55 := Z5.cell 5 rfl
            go_wp2_with fail
            refine bodyPost_ret (v := .tuple #[.agg #[I 0, I 0, I 0, I 0, I 0, I 0], .int .i64 3]) (by simp [results, Try.results22, go_sem, z50, z51, z52, z53, z54, z55]) rfl ⟨rfl, ?_⟩
            iterate 6 (refine Below.setCell ?_ (Nat.le_succ _) _)
            exact B5.out
      · have hx : ∀ w : World, (Instr.index 9 (.string s) (I 18)).run Try.prog w = .ok (.int .u8 (b 18)) w := h.ix 18 (by decide)
        have hf : ∀ w : World, (Instr.index 9 (.string ⟨#[100, 100, 100, 100, 45, 100, 100, 45, 100, 100, 84, 100, 100, 58, 100, 100, 58, 100, 100]⟩) (I 18)).run Try.prog w = .ok (.int .u8 100) w := fun _ => by kernel_rfl
        by_cases hg : DG b 18
        · have HG := Lib.hid hg
          have e1 : decide (48 ≤ b 18) = true := by simpa using hg.1
          have e2 : decide (b 18 ≤ 57) = true := by simpa using hg.2
          clear hg
          go_wp2_with fail
          refine wp_region_grown (by kernel_rfl) (by kernel_rfl) ?_
          repeat (go_big_quiet_step (fail))
          refine wpQuiet_nil ?_
          intro wq hbq
          clear cs csx hx hf
          clear e1 e2
          have hS := HS.out.below hbq HS.out.lt
          have hZ := HZ.out.below hbq HZ.out.lt
          have hB := Lib.hid (HB.out.trans (hbq.mono HB.out.size))
          clear hbq
          go_wp2_with fail
          go_roundg (19 - (18 + 1))
          case measure => have := hK.out; omega
          case rel => exact ⟨18 + 1, by go_num, by omega, rfl, okAll_up OK.out (by unfold okAt; rw [if_neg (by decide), if_neg (by decide), if_neg (by decide)]; exact HG.out), hS, hZ, hB.out⟩
        · obtain ⟨rfl, rfl⟩ := HR.out.bad (fun all => by have hh := all 18 (by decide); unfold okAt at hh; rw [if_neg (by decide), if_neg (by decide), if_neg (by decide)] at hh; exact hg hh)
          by_cases h1 : 48 ≤ b 18
          · have e1 : decide (48 ≤ b 18) = true := by simpa using h1
            have e2 : decide (b 18 ≤ 57) = false := by simp; unfold DG at hg; omega
            clear h1 hg
            go_wp2_with fail
            refine wp_region_grown (by kernel_rfl) (by kernel_rfl) ?_
            repeat (go_big_quiet_step (fail))
            refine wpQuiet_nil ?_
            intro wq hbq
            clear cs csx hx hf
            have Z5 := HZ.out.below hbq HZ.out.lt
            have B5 := Lib.hid (HB.out.trans (hbq.mono HB.out.size))
            have y50 := Z5.free 0; have y51 := Z5.free 1; have y52 := Z5.free 2; have y53 := Z5.free 3; have y54 := Z5.free 4; have y55 := Z5.free 5
            have z50 := Z5.cell 0 rfl; have z51 := Z5.cell 1 rfl; have z52 := Z5.cell 2 rfl; have z53 := Z5.cell 3 rfl; have z54 := Z5.cell 4 rfl; have z55 := Z5.cell 5 rfl
            go_wp2_with fail
            refine bodyPost_ret (v := .tuple #[.agg #[I 0, I 0, I 0, I 0, I 0, I 0], .int .i64 3]) (by simp [results, Try.results22, go_sem, z50, z51, z52, z53, z54, z55]) rfl ⟨rfl, ?_⟩
            iterate 6 (refine Below.setCell ?_ (Nat.le_succ _) _)
            exact B5.out
          · have e1 : decide (48 ≤ b 18) = false := by simpa using h1
            clear h1 hg
            go_wp2_with fail
            refine wp_region_grown (by kernel_rfl) (by kernel_rfl) ?_
            repeat (go_big_quiet_step (fail))
            refine wpQuiet_nil ?_
            intro wq hbq
            clear cs csx hx hf
            have Z5 := HZ.out.below hbq HZ.out.lt
            have B5 := Lib.hid (HB.out.trans (hbq.mono HB.out.size))
            have y50 := Z5.free 0; have y51 := Z5.free 1; have y52 := Z5.free 2; have y53 := Z5.free 3; have y54 := Z5.free 4; have y55 := Z5.free 5
            have z50 := Z5.cell 0 rfl; have z51 := Z5.cell 1 rfl; have z52 := Z5.cell 2 rfl; have z53 := Z5.cell 3 rfl; have z54 := Z5.cell 4 rfl; have z55 := Z5.cell 5 rfl
            go_wp2_with fail
            refine bodyPost_ret (v := .tuple #[.agg #[I 0, I 0, I 0, I 0, I 0, I 0], .int .i64 3]) (by simp [results, Try.results22, go_sem, z50, z51, z52, z53, z54, z55]) rfl ⟨rfl, ?_⟩
            iterate 6 (refine Below.setCell ?_ (Nat.le_succ _) _)
            exact B5.out
end
end Go.Proofs.Ytajjibfipkijfaa
