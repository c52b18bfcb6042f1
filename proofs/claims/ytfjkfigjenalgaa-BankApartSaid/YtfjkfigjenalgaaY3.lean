/- The law BankApart: the walk. Its conditions: those that its statement shows. -/
import Derived.Test.YtfjkfigjenalgaaY2
import Derived.Deep.RegionHeld3
import Derived.Test.YtfjkfigjenalgaaO1
namespace Go.Proofs.Ytfjkfigjenalgaa
open Go.RowKit
set_option linter.unusedVariables false
set_option linter.unusedSimpArgs false

theorem bstoreB_ne (ss : List CS) (off v : Int) (h0 : 0 ≤ off) (q : Nat) (h : (q : Int) ≠ off / 32) : (bstoreB ss off v).1[q]? = ss[q]? := by
  unfold bstoreB
  split
  · rfl
  · split
    · rw [List.getElem?_set_ne (by omega)]
    · rfl

set_option maxRecDepth 100000 in
set_option maxHeartbeats 2000000 in
theorem bapart_walk (w : World) (n : Int) (A : Option Addr) (len cap : Nat) (off v : Int) (hlen : len ≤ maxLen) (ha : Acts w A len) (ho0 : 0 ≤ off) (ho1 : off ≤ 4294967295) (hv0 : 0 ≤ v) (hv1 : v ≤ 4294967295) :
    Calls Try.prog 9 #[I n, .slice A len cap, U off, U v] w fun e w' => e = .returned (.bool true) ∧ Below w.heap.size w w' := by
  have V0 := Lib.hid hv0
  have V1 := Lib.hid hv1
  have O0 := Lib.hid ho0
  have O1 := Lib.hid ho1
  clear hv0 hv1 ho0 ho1
  unfold maxLen at hlen
  have HA := Lib.hid ha; clear ha
  obtain ⟨m, m1, m8, hm⟩ := m_of n
  have hmk := make27 m m8
  go_enter Try.func9, Try.ntmps9
  go_wp2_with ((go_at_call 24; fail))
  rw [hm]
  clear hm
  have HMK := Lib.hid hmk
  refine (bnew_any m m1 m8 w).mono ?_
  rintro e w1 ⟨bb, ab, cs, rfl, K1, hbb, hlo, b1⟩
  have HS := Lib.hid (BS.start (w0 := w) K1 m1 m8 hlo b1)
  have HB := Lib.hid (b1.alloc b1.size (.cells (madeCells zcells (m * 8)) 27))
  clear K1 hbb hlo b1
  go_upto_block 0 with fail
  generalize hW : w1.alloc (.cells (madeCells zcells (m * 8)) 27) = w2 at *
  clear hW
  go_cut [9, 11] (fun c l wx => BLEnd w m c l wx)
  case first =>
    go_wp2_with fail
    go_loopg [9, 11, 12] 30 (fun k c l i wr => BPRel w m len 30 k c l i wr)
    case atStart => exact ⟨_, _, _, _, _, _, _, 0, rfl, rfl, rfl, by omega, by omega, rfl, by simp, HS.out, HB.out⟩
    case round =>
      obtain ⟨bb, ab, cap, g, gc, cs, ss, q, rfl, rfl, rfl, hq, hql, hk, hm, hs, hb⟩ := hrel
      clear HS HB
      have HS := Lib.hid hs
      have HB := Lib.hid hb
      have HK := Lib.hid hk
      have HM := Lib.hid hm
      clear hs hk hm
      by_cases hlt : q < len
      · by_cases h60 : q < 30
        · have hd1 : decide ((q : Int) < (len : Int)) = true := by simp; omega
          have hd2 : decide ((q : Int) < 30) = true := by simp; omega
          obtain ⟨sb, so, ak, an, ao, av, hA, hat⟩ := HA.out q hlt
          subst hA
          have hat' := hat.below hb
          obtain ⟨⟨n0, n1, o0, o1, v0, v1⟩, _⟩ := hat
          obtain ⟨_, a0, a1, a2, a3⟩ := hat'
          have b0 : (0 : Int) ≤ (q : Int) := by omega
          have b1 : (q : Int) < (len : Int) := by omega
          clear hb
          go_wp2_with ((go_at_call 26; fail))
          refine (bdo_m HS.out HM.out ak an ao av n0 n1 o0 o1 v0 v1).mono ?_
          rintro e w3 ⟨bb', ab', cap', g', gc', cs', rfl, S3, b3⟩
          have HS3 := Lib.hid S3
          have HB3 := Lib.hid (HB.out.trans b3)
          have HM3 := Lib.hid ((doBB_len ss ak an ao av).trans HM.out)
          generalize doBB ss ak an ao av = ss' at *
          clear S3 b3 a0 a1 a2 a3
          go_wp2_with fail
          go_roundg (30 - (q + 1))
          case measure => have := HK.out; omega
          case rel => exact ⟨bb', ab', cap', g', gc', cs', ss', q + 1, rfl, rfl, by go_num, by omega, by omega, rfl, HM3.out, HS3.out, HB3.out⟩
        · have hd1 : decide ((q : Int) < (len : Int)) = true := by simp; omega
          have hd2 : decide ((q : Int) < 30) = false := by simp; omega
          clear hb
          go_wp2_with fail
          go_meet
          exact ⟨_, _, _, _, _, _, _, rfl, rfl, HM.out, HS.out, HB.out⟩
      · have hd1 : decide ((q : Int) < (len : Int)) = false := by simp; omega
        clear hb
        go_wp2_with fail
        go_meet
        exact ⟨_, _, _, _, _, _, _, rfl, rfl, HM.out, HS.out, HB.out⟩
  case rest =>
    obtain ⟨bb, ab, cap, g, gc, cs, ss, rfl, rfl, hm, hs, hb⟩ := hcut
    subst hm
    have HB := Lib.hid hb
    have HS := Lib.hid hs
    clear hb hs hmk HMK HA
    have hrem : IntKind.u32.wrap (off.tmod 256) = off.tmod 256 := by
      rw [IntKind.wrap_u32]; have := O0.out; rw [Int.tmod_eq_emod_of_nonneg this]; omega
    have hb0 : 0 ≤ off.tmod 256 ∧ off.tmod 256 ≤ 255 := by
      have := O0.out; rw [Int.tmod_eq_emod_of_nonneg this]; omega
    generalize ho : off.tmod 256 = o at hrem hb0
    obtain ⟨o0, o1⟩ := hb0
    obtain ⟨ss', e', HV⟩ : ∃ ss' e', Hid (bstoreB ss o v = (ss', e')) := ⟨_, _, Lib.hid rfl⟩
    have HD : Hid (∀ q : Nat, (q : Int) ≠ o / 32 → ss'[q]? = ss[q]?) := Lib.hid (fun q hq => by have := bstoreB_ne ss o v o0 q hq; rw [HV.out] at this; exact this)
    have HL : Hid (ss'.length = ss.length) := Lib.hid (by have := bstoreB_len ss o v; rw [HV.out] at this; exact this)
    go_wp2_with ((go_at_call 28; fail))
    refine (bstore_of HS.out.bk o v o0 (by omega) V0.out V1.out HV).mono ?_
    rintro e w3 ⟨rfl, B3, K3⟩
    have HB3 := Lib.hid B3
    have HR3 := Lib.hid (HS.out.rl.kept K3 HS.out.gn)
    have HF3 := Lib.hid (HB.out.trans (K3.below_ HS.out.lo HS.out.sz))
    clear B3 K3
    go_wp2_with fail
    go_loopg [13] ss.length (fun k i wr => RelAl w3 ss k i wr)
    case atStart => exact ⟨0, rfl, by omega, rfl, Below.refl _ _⟩
    case round =>
      obtain ⟨q, rfl, hq, hk, hb⟩ := hrel
      have HK := Lib.hid hk
      have HQ := Lib.hid hb
      clear hk
      by_cases hlt : q < ss.length
      · have hd : decide ((q : Int) < (ss.length : Int)) = true := by simp; omega
        have nn0 : (0 : Int) ≤ (q : Int) := by omega
        have nn1 : (q : Int) < (ss.length : Int) := by omega
        obtain ⟨t, ht⟩ : ∃ t : Int, o.tdiv 32 = t := ⟨_, rfl⟩
        have ht2 : t = o / 32 := by rw [← ht]; exact Int.tdiv_eq_ediv_of_nonneg o0
        have ht3 : IntKind.u32.wrap t = t := by rw [IntKind.wrap_u32]; omega
        have ht4 : wrap64 t = t := by unfold wrap64; omega
        have ht5 : IntKind.i64.wrap t = t := by first | (rw [IntKind.wrap_i64]; exact ht4) | (rw [IntKind.wrap_i64]; omega) | (show wrap64 t = t; exact ht4)
        by_cases hqt : (q : Int) = t
        · have hne : ((q : Int) != t) = false := by simp [hqt]
          have hne2 : ((q : Int) == t) = true := by simp [hqt]
          have hne3 : decide ((q : Int) = t) = true := by simp [hqt]
          have HQT := Lib.hid hqt
          have hlt' := Lib.hid hlt
          clear hqt ht2 hlt hq hb
          go_wp2_with fail
          refine wp_region_grown (by kernel_rfl) (by kernel_rfl) ?_
          repeat (go_big_quiet_step (fail))
          refine wpQuiet_nil ?_
          intro w5 hb5
          have HQ5 := Lib.hid (HQ.out.trans (hb5.mono HQ.out.size))
          clear hb5
          go_wp2_with fail
          go_roundg (ss.length - (q + 1))
          case measure => have := HK.out; omega
          case rel => exact ⟨q + 1, by go_num, (by have := hlt'.out; omega), rfl, HQ5.out⟩
        · have hne : ((q : Int) != t) = true := by simp [hqt]
          have hne2 : ((q : Int) == t) = false := by simp [hqt]
          have hne3 : decide ((q : Int) = t) = false := by simp [hqt]
          have hB := HB3.out.below hb
          have hR := HR3.out.below hb HR3.out.lt
          obtain ⟨c, s, e1, e2, hm, hc, ok, hcell⟩ := hB.nth (k := q) (by rw [HL.out]; exact hlt)
          have E2 := Lib.hid ((HD.out q (by omega)).symm.trans e2)
          have b1 := (Below.refl wr.heap.size wr).alloc (Nat.le_refl _) (.cells s.cells 67)
          have hR1 := hR.below b1 hR.lt
          have hR2 := hR1.below (Below.refl (wr.alloc (.cells s.cells 67)).heap.size (wr.alloc (.cells s.cells 67))).drew hR1.lt
          have c0 : wr.cell? ⟨g, q * 8, none⟩ = some (U s.load) := hR.at_ q s E2.out 0 _ rfl; have c1 := hR.at_ q s E2.out 1 _ rfl; have c2 := hR.at_ q s E2.out 2 _ rfl; have c3 := hR.at_ q s E2.out 3 _ rfl; have c4 := hR.at_ q s E2.out 4 _ rfl; have c5 := hR.at_ q s E2.out 5 _ rfl; have c6 := hR.at_ q s E2.out 6 _ rfl; have c7 := hR.at_ q s E2.out 7 _ rfl
          have d0 : (wr.alloc (.cells s.cells 67)).cell? ⟨g, q * 8, none⟩ = some (U s.load) := hR1.at_ q s E2.out 0 _ rfl; have d1 := hR1.at_ q s E2.out 1 _ rfl; have d2 := hR1.at_ q s E2.out 2 _ rfl; have d3 := hR1.at_ q s E2.out 3 _ rfl; have d4 := hR1.at_ q s E2.out 4 _ rfl; have d5 := hR1.at_ q s E2.out 5 _ rfl; have d6 := hR1.at_ q s E2.out 6 _ rfl; have d7 := hR1.at_ q s E2.out 7 _ rfl
          have f0 : (wr.alloc (.cells s.cells 67)).drew.cell? ⟨g, q * 8, none⟩ = some (U s.load) := hR2.at_ q s E2.out 0 _ rfl; have f1 := hR2.at_ q s E2.out 1 _ rfl; have f2 := hR2.at_ q s E2.out 2 _ rfl; have f3 := hR2.at_ q s E2.out 3 _ rfl; have f4 := hR2.at_ q s E2.out 4 _ rfl; have f5 := hR2.at_ q s E2.out 5 _ rfl; have f6 := hR2.at_ q s E2.out 6 _ rfl; have f7 := hR2.at_ q s E2.out 7 _ rfl
          have HT := Lib.hid (timer_ok (hB.below (Below.refl wr.heap.size wr).drew) q c s (by rw [HL.out]; exact hlt) e1 e2)
          have HAL := Lib.hid (alike_any ok (show HC ((wr.alloc (.cells s.cells 67)).drew) wr.heap.size s from HC.drew (Blk.new wr s.cells 67)))
          have HR2 := Lib.hid hR2
          have HB2 := Lib.hid (hb.trans ((b1.drew).mono hb.size))
          clear hb hB hR hR1 hR2 e1 e2 hm hc ok hcell b1 hqt ht2 hlt hq
          obtain ⟨ld, va, en, re, ir, sc, ph, st⟩ := s
          dsimp only at c0 c1 c2 c3 c4 c5 c6 c7 d0 d1 d2 d3 d4 d5 d6 d7 f0 f1 f2 f3 f4 f5 f6 f7
          go_wp2_with fail
          go_region_held3 (fun W => W.cell? ⟨g, q * 8, none⟩ = some (U ld) ∧ W.cell? ⟨g, q * 8 + 1, none⟩ = some (U va) ∧ W.cell? ⟨g, q * 8 + 2, none⟩ = some (.bool en) ∧ W.cell? ⟨g, q * 8 + 3, none⟩ = some (.bool re) ∧ W.cell? ⟨g, q * 8 + 4, none⟩ = some (.bool ir) ∧ W.cell? ⟨g, q * 8 + 5, none⟩ = some (U sc) ∧ W.cell? ⟨g, q * 8 + 6, none⟩ = some (U ph) ∧ W.cell? ⟨g, q * 8 + 7, none⟩ = some (.bool st)) (go_keep) (first | (go_at_call 33; refine HT.out.mono ?_; rintro e w6 ⟨rfl, rfl⟩) | (go_at_call 13; refine HAL.out.mono ?_; rintro e w6 ⟨rfl, hb6⟩; (have R6 := HR2.out.below hb6 HR2.out.lt); (have k0 : w6.cell? ⟨g, q * 8, none⟩ = some (U ld) := R6.at_ q _ E2.out 0 _ rfl); (have k1 := R6.at_ q _ E2.out 1 _ rfl); (have k2 := R6.at_ q _ E2.out 2 _ rfl); (have k3 := R6.at_ q _ E2.out 3 _ rfl); (have k4 := R6.at_ q _ E2.out 4 _ rfl); (have k5 := R6.at_ q _ E2.out 5 _ rfl); (have k6 := R6.at_ q _ E2.out 6 _ rfl); (have k7 := R6.at_ q _ E2.out 7 _ rfl); (have HB6 := Lib.hid (HB2.out.trans (hb6.mono HB2.out.size))); (clear hb6 R6)))
          clear k0 k1 k2 k3 k4 k5 k6 k7 c0 c1 c2 c3 c4 c5 c6 c7 d0 d1 d2 d3 d4 d5 d6 d7 f0 f1 f2 f3 f4 f5 f6 f7
          go_wp2_with fail
          go_roundg (ss.length - (q + 1))
          case measure => have := HK.out; omega
          case rel => exact ⟨q + 1, by go_num, (by omega), rfl, HB6.out⟩
      · have hqe : q = ss.length := by omega
        have hd : decide ((q : Int) < (ss.length : Int)) = false := by simp; omega
        rw [hqe]
        rw [hqe] at hd
        have HF4 := Lib.hid (HF3.out.trans (hb.mono HF3.out.size))
        clear hqe hlt hq hb
        go_wp2_with ((go_at_call 25; fail))
        refine (known_bank _).mono ?_
        rintro e w5 ⟨rfl, b5⟩
        have HF5 := Lib.hid (HF4.out.trans (b5.mono HF4.out.size))
        clear b5
        go_wp2_with fail
        go_ret
        exact ⟨rfl, HF5.out⟩

theorem bapart_row (w : World) (n : Int) (A : Option Addr) (len cap : Nat) (off v : Int) (_hn : (Lit.int .i64 n).wf = true) (hlen : len ≤ maxLen) (ha : Acts w A len) (ho : (Lit.int .u32 off).wf = true) (hv : (Lit.int .u32 v).wf = true) :
    Calls Try.prog 9 #[I n, .slice A len cap, U off, U v] w fun e w' => e = .returned (.bool true) ∧ Below w.heap.size w w' := by
  have h1 := wf_u32 ho
  have h2 := wf_u32 hv
  exact bapart_walk w n A len cap off v hlen ha (by omega) (by omega) (by omega) (by omega)
end Go.Proofs.Ytfjkfigjenalgaa
