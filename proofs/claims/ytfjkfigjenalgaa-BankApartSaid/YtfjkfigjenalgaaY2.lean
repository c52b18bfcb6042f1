/- The law BankLeft: the walk. Its conditions: those that its statement shows. -/
import Derived.Test.YtfjkfigjenalgaaY1
import Derived.Test.YtfjkfigjenalgaaX10
import Derived.Deep.CutRange
import Derived.Deep.CutBlock
import Derived.Deep.DeepCutAuto
namespace Go.Proofs.Ytfjkfigjenalgaa
open Go.RowKit
set_option linter.unusedVariables false
set_option linter.unusedSimpArgs false

/-- What holds behind the calls. -/
def BLEnd (w : World) (m : Nat) (c l : Value) (wx : World) : Prop :=
  ∃ bb ab cap g gc cs ss, c = .pointer (some ⟨bb, 0, none⟩) ∧ l = .slice (some ⟨g, 0, none⟩) m gc ∧ ss.length = m ∧ BS w.heap.size wx bb ab cap g cs ss ∧ Below w.heap.size w wx

theorem m_of (n : Int) : ∃ m : Nat, 1 ≤ m ∧ m ≤ 8 ∧ wrap64 (1 + wrap64 ((IntKind.u64.wrap n).tmod 8)) = (m : Int) := by
  have h1 : 0 ≤ IntKind.u64.wrap n := by rw [IntKind.wrap_u64]; omega
  rw [Int.tmod_eq_emod_of_nonneg h1]
  generalize IntKind.u64.wrap n = x at h1 ⊢
  refine ⟨(1 + x % 8).toNat, by omega, by omega, ?_⟩
  unfold wrap64
  omega

def RelSame (w0 : World) (N k : Nat) (i : Value) (wr : World) : Prop := ∃ q : Nat, i = I (q : Nat) ∧ q ≤ N ∧ k = N - q ∧ w0 = wr

theorem runs_of' {w : World} {bb ab cap : Nat} {cs : List Nat} {ss : List CS} (h : BK w bb ab cap cs ss) {a : Int} (hv : Hid (wordN ss (fun s => s.en) ss.length = a)) : Calls Try.prog 30 #[.pointer (some ⟨bb, 0, none⟩)] w fun e w' => e = .returned (U a) ∧ Below w.heap.size w w' := by
  rw [← hv.out]; exact bruns_any h

set_option maxRecDepth 100000 in
set_option maxHeartbeats 2000000 in
theorem bankleft_walk (w : World) (n : Int) (A : Option Addr) (len cap : Nat) (hlen : len ≤ maxLen) (ha : Acts w A len) :
    Calls Try.prog 8 #[I n, .slice A len cap] w fun e w' => e = .returned (.bool true) ∧ Below w.heap.size w w' := by
  unfold maxLen at hlen
  have HA := Lib.hid ha; clear ha
  obtain ⟨m, m1, m8, hm⟩ := m_of n
  have hmk := make27 m m8
  go_enter Try.func8, Try.ntmps8
  go_wp2_with ((go_at_call 24; fail))
  rw [hm]
  clear hm
  have HMK := Lib.hid hmk
  refine (bnew_any m m1 m8 w).mono ?_
  rintro e w1 ⟨bb, ab, cs, rfl, K1, hbb, hlo, b1⟩
  have HS := Lib.hid (BS.start (w0 := w) K1 m1 m8 hlo b1)
  have HB := Lib.hid (b1.alloc b1.size (.cells (madeCells zcells (m * 8)) 27))
  clear K1 hbb hlo b1
  go_upto_block 0 with fail
  generalize hW : w1.alloc (.cells (madeCells zcells (m * 8)) 27) = w2 at *
  clear hW
  go_cut [5, 7] (fun c l wx => BLEnd w m c l wx)
  case first =>
    go_wp2_with fail
    go_loopg [5, 7, 8] 30 (fun k c l i wr => BPRel w m len 30 k c l i wr)
    case atStart => exact ⟨_, _, _, _, _, _, _, 0, rfl, rfl, rfl, by omega, by omega, rfl, by simp, HS.out, HB.out⟩
    case round =>
      obtain ⟨bb, ab, cap, g, gc, cs, ss, q, rfl, rfl, rfl, hq, hql, hk, hm, hs, hb⟩ := hrel
      clear HS HB
      have HS := Lib.hid hs
      have HB := Lib.hid hb
      have HK := Lib.hid hk
      have HM := Lib.hid hm
      clear hs hk hm
      by_cases hlt : q < len
      · by_cases h60 : q < 30
        · have hd1 : decide ((q : Int) < (len : Int)) = true := by simp; omega
          have hd2 : decide ((q : Int) < 30) = true := by simp; omega
          obtain ⟨sb, so, ak, an, ao, av, hA, hat⟩ := HA.out q hlt
          subst hA
          have hat' := hat.below hb
          obtain ⟨⟨n0, n1, o0, o1, v0, v1⟩, _⟩ := hat
          obtain ⟨_, a0, a1, a2, a3⟩ := hat'
          have b0 : (0 : Int) ≤ (q : Int) := by omega
          have b1 : (q : Int) < (len : Int) := by omega
          clear hb
          go_wp2_with ((go_at_call 26; fail))
          refine (bdo_m HS.out HM.out ak an ao av n0 n1 o0 o1 v0 v1).mono ?_
          rintro e w3 ⟨bb', ab', cap', g', gc', cs', rfl, S3, b3⟩
          have HS3 := Lib.hid S3
          have HB3 := Lib.hid (HB.out.trans b3)
          have HM3 := Lib.hid ((doBB_len ss ak an ao av).trans HM.out)
          generalize doBB ss ak an ao av = ss' at *
          clear S3 b3 a0 a1 a2 a3
          go_wp2_with fail
          go_roundg (30 - (q + 1))
          case measure => have := HK.out; omega
          case rel => exact ⟨bb', ab', cap', g', gc', cs', ss', q + 1, rfl, rfl, by go_num, by omega, by omega, rfl, HM3.out, HS3.out, HB3.out⟩
        · have hd1 : decide ((q : Int) < (len : Int)) = true := by simp; omega
          have hd2 : decide ((q : Int) < 30) = false := by simp; omega
          clear hb
          go_wp2_with fail
          go_meet
          exact ⟨_, _, _, _, _, _, _, rfl, rfl, HM.out, HS.out, HB.out⟩
      · have hd1 : decide ((q : Int) < (len : Int)) = false := by simp; omega
        clear hb
        go_wp2_with fail
        go_meet
        exact ⟨_, _, _, _, _, _, _, rfl, rfl, HM.out, HS.out, HB.out⟩
  case rest =>
    obtain ⟨bb, ab, cap, g, gc, cs, ss, rfl, rfl, hm, hs, hb⟩ := hcut
    subst hm
    have HB := Lib.hid hb
    have HS := Lib.hid hs
    clear hb hs hmk HMK HA
    go_wp2_with fail
    go_loopg [9] ss.length (fun k i wr => RelW wc bb ab cap cs ss clr k i wr)
    case atStart => exact ⟨0, rfl, by omega, rfl, by simpa using HS.out.bk, Kept.of_below (Below.refl _ _)⟩
    case round =>
      obtain ⟨q, rfl, hq, hk, hB, hK⟩ := hrel
      have HK := Lib.hid hk
      have HBq := Lib.hid hB
      have HKp := Lib.hid hK
      clear hk hB hK
      by_cases hlt : q < ss.length
      · have hd : decide ((q : Int) < (ss.length : Int)) = true := by simp; omega
        have nn0 : (0 : Int) ≤ (q : Int) := by omega
        have nn1 : (q : Int) < (ss.length : Int) := by omega
        have nn2 : (q : Int) < 8 := by omega
        go_wp2_with ((go_at_call 28; fail))
        obtain ⟨c, s, e1, e2, hm, hc, ok, hcell⟩ := HBq.out.nth (k := q) (by simp; omega)
        rw [nth_map] at e2
        have HV := Lib.hid (bstore_clr ((ss.take q).map clr ++ ss.drop q) q s (by rw [nth_map]; exact e2))
        rw [step_map ss clr q s e2] at HV
        clear e1 e2 hm hc ok hcell
        refine (bstore_of HBq.out _ 1 (by omega) (by omega) (by decide) (by decide) HV).mono ?_
        rintro e w3 ⟨rfl, B3, K3⟩
        have HB3 := Lib.hid B3
        have HK3 := Lib.hid (HKp.out.trans K3)
        clear B3 K3
        go_wp2_with fail
        go_roundg (ss.length - (q + 1))
        case measure => have := HK.out; omega
        case rel => exact ⟨q + 1, by go_num, by omega, rfl, HB3.out, HK3.out⟩
      · have hqe : q = ss.length := by omega
        have hd : decide ((q : Int) < (ss.length : Int)) = false := by simp; omega
        have hB2 : BK wr bb ab cap cs (ss.map clr) := by
          have := HBq.out
          rw [hqe, List.take_length, List.drop_length, List.append_nil] at this
          exact this
        have lo := HS.out.lo
        have sz := HS.out.sz
        have HB1 := Lib.hid (HB.out.trans (HKp.out.below_ lo sz))
        have HSZ := Lib.hid (Nat.le_trans sz HKp.out.size)
        have HLO := Lib.hid lo
        have h1 : ∀ (i : Nat) (s : CS), (ss.map clr)[i]? = some s → s.Ok := fun i s hs => by
          have hi := (List.getElem?_eq_some_iff.1 hs).1
          obtain ⟨c, t, _, e2, _, _, ok, _⟩ := hB2.nth (k := i) hi
          rw [hs] at e2; cases e2; exact ok
        have h2 : ∀ (i : Nat) (s : CS), (ss.map clr)[i]? = some s → s.st = false := fun i s hs => by
          rw [List.getElem?_map] at hs
          obtain ⟨u, hu, rfl⟩ := Option.map_eq_some_iff.1 hs
          rfl
        have hlen1 : (ss.map clr).length = ss.length := by simp
        rw [hqe]
        rw [hqe] at hd
        clear hqe hlt hq HBq HKp HS HB lo sz HK
        generalize ss.map clr = ss1 at *
        rw [← hlen1]
        rw [← hlen1] at hd m1 m8
        clear hlen1
        have HB2 := Lib.hid hB2
        clear hB2
        rcases bleft_law ss1 h1 h2 with ⟨hL, hW⟩ | ⟨at', a, hL, hi, a1, a2, hz, ho⟩
        · have HL := Lib.hid hL
          have HW := Lib.hid hW
          clear hL hW h1 h2
          go_wp2_with ((go_at_call 29; fail))
          refine (bleft_of HB2.out HL).mono ?_
          rintro e w4 ⟨rfl, b4⟩
          have HB4 := Lib.hid (HB2.out.below b4)
          have HF4 := Lib.hid (HB1.out.trans (b4.mono HSZ.out))
          clear b4
          go_wp2_with ((go_at_call 25; fail))
          refine (known_bank _).mono ?_
          rintro e w5 ⟨rfl, b5⟩
          have HB5 := Lib.hid (HB4.out.below b5)
          have HF5 := Lib.hid (HF4.out.trans (b5.mono HF4.out.size))
          clear b5
          go_wp2_with ((go_at_call 30; fail))
          refine (runs_of' HB5.out HW).mono ?_
          rintro e w6 ⟨rfl, b6⟩
          have HF6 := Lib.hid (HF5.out.trans (b6.mono HF5.out.size))
          clear b6
          go_wp2_with fail
          go_ret
          exact ⟨rfl, HF6.out⟩
        · have HL := Lib.hid hL
          have HZ := Lib.hid hz
          have HO := Lib.hid ho
          have d1 : decide ((at' : Int) < 0) = false := by simp
          clear hL hz ho h1 h2
          go_wp2_with ((go_at_call 29; fail))
          refine (bleft_of HB2.out HL).mono ?_
          rintro e w4 ⟨rfl, b4⟩
          have HB4 := Lib.hid (HB2.out.below b4)
          have HF4 := Lib.hid (HB1.out.trans (b4.mono HSZ.out))
          have HSZ4 := Lib.hid (Nat.le_trans HSZ.out b4.size)
          clear b4
          go_wp2_with ((go_at_call 31; fail))
          refine (btick_any HB4.out (a - 1) (by omega) (by omega)).mono ?_
          rintro e w5 ⟨rfl, B5, K5⟩
          have HB5 := Lib.hid B5
          have HF5 := Lib.hid (HF4.out.trans (K5.below_ HLO.out HSZ4.out))
          have HSZ5 := Lib.hid (Nat.le_trans HSZ4.out K5.size)
          clear B5 K5
          go_wp2_with fail
          go_loopg [12] ss1.length (fun k i wr => RelSame w5 ss1.length k i wr)
          case atStart => exact ⟨0, rfl, by omega, rfl, rfl⟩
          case round =>
            obtain ⟨q, rfl, hq, hk, rfl⟩ := hrel
            have HK := Lib.hid hk
            clear hk
            by_cases hlt : q < ss1.length
            · have hd : decide ((q : Int) < (ss1.length : Int)) = true := by simp; omega
              have nn0 : (0 : Int) ≤ (q : Int) := by omega
              have nn1 : (q : Int) < (ss1.length : Int) := by omega
              have nn2 : (q : Int) < 8 := by omega
              have hqt : q < (ss1.map fun s => s.tick (a - 1)).length := by simpa using hlt
              have e2 : (ss1.map fun s => s.tick (a - 1))[q]? = some ((ss1.map fun s => s.tick (a - 1))[q]'hqt) := List.getElem?_eq_getElem hqt
              have hv0 := bload_st _ q _ e2
              rw [HZ.out q _ e2] at hv0
              have HV : Hid (bloadB (ss1.map fun s => s.tick (a - 1)) (32 * (q : Int) + 12) = (0, 0)) := Lib.hid hv0
              clear hqt e2 hv0
              go_wp2_with ((go_at_call 32; fail))
              refine (bload_of HB5.out _ (by omega) (by omega) HV).mono ?_
              rintro e w6 ⟨rfl, rfl⟩
              go_wp2_with fail
              go_roundg (ss1.length - (q + 1))
              case measure => have := HK.out; omega
              case rel => exact ⟨q + 1, by go_num, by omega, rfl, rfl⟩
            · have hqe : q = ss1.length := by omega
              have hd : decide ((q : Int) < (ss1.length : Int)) = false := by simp; omega
              rw [hqe]
              rw [hqe] at hd
              clear hqe hlt hq HK
              have nn0 : (0 : Int) ≤ (at' : Int) := by omega
              have nn1 : (at' : Int) < 8 := by omega
              have hit : at' < ((ss1.map fun s => s.tick (a - 1)).map fun s => s.tick 1).length := by simpa using hi
              have e2 : ((ss1.map fun s => s.tick (a - 1)).map fun s => s.tick 1)[at']? = some (((ss1.map fun s => s.tick (a - 1)).map fun s => s.tick 1)[at']'hit) := List.getElem?_eq_getElem hit
              have hv0 := bload_st _ at' _ e2
              rw [HO.out _ e2] at hv0
              have HV : Hid (bloadB ((ss1.map fun s => s.tick (a - 1)).map fun s => s.tick 1) (32 * (at' : Int) + 12) = (1, 0)) := Lib.hid hv0
              have d2 : decide (0 < a) = true := by simp; omega
              clear hit e2 hv0
              go_wp2_with ((go_at_call 31; fail))
              refine (btick_any HB5.out 1 (by decide) (by decide)).mono ?_
              rintro e w7 ⟨rfl, B7, K7⟩
              have HB7 := Lib.hid B7
              have HF7 := Lib.hid (HF5.out.trans (K7.below_ HLO.out HSZ5.out))
              clear B7 K7
              go_wp2_with ((go_at_call 32; fail))
              refine (bload_of HB7.out _ (by omega) (by omega) HV).mono ?_
              rintro e w8 ⟨rfl, rfl⟩
              go_wp2_with ((go_at_call 25; fail))
              refine (known_bank _).mono ?_
              rintro e w9 ⟨rfl, b9⟩
              have HF9 := Lib.hid (HF7.out.trans (b9.mono HF7.out.size))
              clear b9
              go_wp2_with fail
              go_ret
              exact ⟨rfl, HF9.out⟩

theorem bankleft_row (w : World) (n : Int) (A : Option Addr) (len cap : Nat) (_hn : (Lit.int .i64 n).wf = true) (hlen : len ≤ maxLen) (ha : Acts w A len) :
    Calls Try.prog 8 #[I n, .slice A len cap] w fun e w' => e = .returned (.bool true) ∧ Below w.heap.size w w' := bankleft_walk w n A len cap hlen ha
end Go.Proofs.Ytfjkfigjenalgaa
