/- The law's own functions: a call, of both, whole. No conditions beyond those that each statement shows. -/
import Derived.Test.YtfjkfigjenalgaaX8
import Derived.Deep.OwnRows
namespace Go.Proofs.Ytfjkfigjenalgaa
open Go.RowKit
set_option linter.unusedVariables false
set_option linter.unusedSimpArgs false

def zcells : Array Value := #[U 0, U 0, .bool false, .bool false, .bool false, U 0, U 0, .bool false]
theorem cellsOf_zero (n : Nat) (hn : n ≤ 8) : (madeCells zcells (n * 8)).toList = cellsOf (List.replicate n CS.zero) := by
  obtain rfl | rfl | rfl | rfl | rfl | rfl | rfl | rfl | rfl : n = 0 ∨ n = 1 ∨ n = 2 ∨ n = 3 ∨ n = 4 ∨ n = 5 ∨ n = 6 ∨ n = 7 ∨ n = 8 := by omega
  all_goals first | kernel_rfl | (simp [madeCells, zcells, cellsOf, List.replicate, CS.rc, CS.zero, List.range_succ]; done)

theorem make27 (n : Nat) (hn : n ≤ 8) (w : World) : (Instr.makeSlice 50 (.int .i64 (n : Int)) (.int .i64 (n : Int))).run Try.prog w = .ok (.slice (some ⟨w.heap.size, 0, none⟩) n n) (w.alloc (.cells (madeCells zcells (n * 8)) 27)) := by
  obtain ⟨i27, hi, hz0, hz1, hz2⟩ := info_parts info27
  have hr := run_make (P := Try.prog) w 50 27 i27 _ Try.underlying50 hi hz0 .i64 .i64 n n (by omega) (Int.le_refl _) (by rw [hz2]; omega) (by omega)
  simp only [Int.toNat_natCast, hz1] at hr
  exact hr

theorem RL.made (w : World) (n : Nat) (h1 : 1 ≤ n) (hn : n ≤ 8) : RL (w.alloc (.cells (madeCells zcells (n * 8)) 27)) w.heap.size (List.replicate n CS.zero) := by
  have h := World.ownsRow_lit (base := 0) (e := 27) (size := 8) w (madeCells zcells (n * 8)) n (Nat.zero_le _) (by unfold maxLen; omega) (size_madeCells _ _)
  rw [cellsOf_zero n hn] at h
  refine RL.of_own h (by simpa using h1) (by simpa using hn) (fun i s hs => ?_)
  have := List.mem_of_getElem? hs
  rw [List.mem_replicate] at this
  rw [this.2]
  exact CS.zero_ok

theorem RL.drew {w : World} {g : Nat} {ss : List CS} (h : RL w g ss) : RL w.drew g ss := h.below (Below.refl w.heap.size w).drew h.lt

theorem BK.kept {w w' : World} {bb ab cap : Nat} {cs cs2 : List Nat} {ss : List CS} (h : BK w bb ab cap cs2 ss) (hk : Kept w w' cs) (hd : ∀ c ∈ cs2, c ∉ cs) (h1 : bb ∉ cs) (h2 : ab ∉ cs) : BK w' bb ab cap cs2 ss := by
  obtain ⟨cur, a1, a2⟩ := h.arr
  exact ⟨h.len, h.lo, h.hi, hk.blk h.box h1, ⟨cur, hk.blk a1 h2, a2⟩, fun i c s hc hs => ⟨hk.blk (h.tm i c s hc hs).1 (hd c (List.mem_of_getElem? hc)), (h.tm i c s hc hs).2⟩, h.nd, h.nb, h.na, h.ne⟩

theorem map_zero (ss : List CS) : ss.map (fun _ => CS.zero) = List.replicate ss.length CS.zero := by
  induction ss with
  | nil => rfl
  | cons a t ih => simp [ih, List.replicate_succ]

section
variable {B : Nat} {w w' : World} {bb ab cap g gc : Nat} {cs : List Nat} {ss : List CS}

set_option maxRecDepth 100000 in
set_option maxHeartbeats 1000000 in
theorem bdo_3 (h : BS B w bb ab cap g cs ss) (n off v : Int) :
    Calls Try.prog 26 #[.pointer (some ⟨bb, 0, none⟩), .slice (some ⟨g, 0, none⟩) ss.length gc, .agg #[I 3, L n, U off, U v]] w (DoQ B w ss.length (ss.map fun _ => CS.zero)) := by
  have b1 := (Below.refl w.heap.size w).alloc (Nat.le_refl _) (.cells #[I 3, L n, U off, U v] 53)
  have H := Lib.hid (h.below b1)
  have hsz := h.sz
  have hlo := h.bk.lo
  have hhi := h.bk.hi
  have HB := Lib.hid (b1.mono h.sz)
  clear h b1
  go_enter Try.func26, Try.ntmps26
  go_wp2_with (go_at_call 34; fail)
  refine (breset_any H.out.bk).mono ?_
  rintro e w2 ⟨rfl, BK2, K2⟩
  have HBK2 := Lib.hid BK2
  have HB2 := Lib.hid (HB.out.trans (K2.below_ H.out.lo H.out.sz))
  have HSZ := Lib.hid (Nat.le_trans H.out.sz K2.size)
  have hmk := make27 ss.length hhi
  clear BK2 K2
  go_wp2_with fail
  go_region
  go_wp2_with fail
  have b3 := ((Below.refl w2.heap.size w2).alloc (Nat.le_refl _) (.cells (madeCells zcells (ss.length * 8)) 27)).drew
  have HF : Hid (BS B ((w2.alloc (.cells (madeCells zcells (ss.length * 8)) 27)).drew) bb ab cap w2.heap.size cs (ss.map fun _ => CS.zero)) := Lib.hid (by
    refine ⟨HBK2.out.below b3, ?_, fun hm => by have := HBK2.out.lt _ hm; omega, H.out.lo, Nat.le_trans HSZ.out b3.size⟩
    rw [map_zero]
    exact (RL.made w2 ss.length hlo hhi).drew)
  have HB3 := Lib.hid (HB2.out.trans (b3.mono HSZ.out))
  clear b3
  refine bodyPost_ret (v := .tuple #[.pointer (some ⟨bb, 0, none⟩), .slice (some ⟨w2.heap.size, 0, none⟩) ss.length ss.length, .bool true]) (by simp [results, Try.results26, go_sem]) rfl ?_
  exact ⟨_, _, _, _, _, _, rfl, HF.out, HB3.out⟩

set_option maxRecDepth 100000 in
set_option maxHeartbeats 1000000 in
theorem bdo_4 (h : BS B w bb ab cap g cs ss) (n off v : Int) :
    Calls Try.prog 26 #[.pointer (some ⟨bb, 0, none⟩), .slice (some ⟨g, 0, none⟩) ss.length gc, .agg #[I 4, L n, U off, U v]] w (DoQ B w ss.length ss) := by
  have b1 := (Below.refl w.heap.size w).alloc (Nat.le_refl _) (.cells #[I 4, L n, U off, U v] 53)
  have H := Lib.hid (h.below b1)
  have hsz := h.sz
  have HB := Lib.hid (b1.mono h.sz)
  clear h b1
  go_enter Try.func26, Try.ntmps26
  go_wp2_with (go_at_call 37; fail)
  refine (bcopy_any H.out.bk).mono ?_
  rintro e w2 ⟨ob, g2, cap2, cs2, rfl, C2, l1, l2, l3, b2⟩
  have H2 := Lib.hid (H.out.below b2)
  have HC2 := Lib.hid C2
  have HB2 := Lib.hid (HB.out.trans (b2.mono H.out.sz))
  have hcl := H.out.bk.lt
  have HOB := Lib.hid (show ob ∉ cs from fun hm => by have := hcl _ hm; omega)
  have HGB := Lib.hid (show g2 ∉ cs from fun hm => by have := hcl _ hm; omega)
  have HDJ := Lib.hid (show ∀ c ∈ cs2, c ∉ cs from fun c hc hm => by have := hcl _ hm; have := l2 c hc; omega)
  have hgl := H.out.rl.lt
  have HGN := Lib.hid (show g ∉ cs2 from fun hm => by have := l2 g hm; omega)
  have HLO := Lib.hid (show ∀ c ∈ cs2, B ≤ c from fun c hc => Nat.le_trans H.out.sz (l2 c hc))
  clear C2 b2 hcl l1 l2 l3 hgl
  go_wp2_with (go_at_call 27; fail)
  refine (balike_any HC2.out H2.out.rl).mono ?_
  rintro e w3 ⟨rfl, b3⟩
  have H3 := Lib.hid (H2.out.below b3)
  have HC3 := Lib.hid (HC2.out.below b3)
  have HB3 := Lib.hid (HB2.out.trans (b3.mono H2.out.sz))
  clear b3
  go_wp2_with (go_at_call 31; fail)
  refine (btick_any H3.out.bk 9 (by decide) (by decide)).mono ?_
  rintro e w4 ⟨rfl, B4, K4⟩
  have HBK4 := Lib.hid B4
  have HC4 := Lib.hid (HC3.out.kept K4 HDJ.out HOB.out HGB.out)
  have HR4 := Lib.hid (H3.out.rl.kept K4 H3.out.gn)
  have HB4 := Lib.hid (HB3.out.trans (K4.below_ H3.out.lo H3.out.sz))
  have HSZ4 := Lib.hid (Nat.le_trans H3.out.sz K4.size)
  clear B4 K4
  go_wp2_with (go_at_call 34; fail)
  refine (breset_any HBK4.out).mono ?_
  rintro e w5 ⟨rfl, B5, K5⟩
  have HF := Lib.hid (show BS B w5 ob g2 cap2 g cs2 ss from ⟨HC4.out.kept K5 HDJ.out HOB.out HGB.out, HR4.out.kept K5 H3.out.gn, HGN.out, HLO.out, Nat.le_trans HSZ4.out K5.size⟩)
  have HB5 := Lib.hid (HB4.out.trans (K5.below_ H3.out.lo HSZ4.out))
  clear B5 K5
  go_wp2_with fail
  refine bodyPost_ret (v := .tuple #[.pointer (some ⟨ob, 0, none⟩), .slice (some ⟨g, 0, none⟩) ss.length gc, .bool true]) (by simp [results, Try.results26, go_sem]) rfl ?_
  exact ⟨_, _, _, _, _, _, rfl, HF.out, HB5.out⟩

theorem bdo_any (h : BS B w bb ab cap g cs ss) (k n off v : Int) (n0 : 0 ≤ n) (n1 : n ≤ 18446744073709551615) (o0 : 0 ≤ off) (o1 : off ≤ 4294967295) (v0 : 0 ≤ v) (v1 : v ≤ 4294967295) :
    Calls Try.prog 26 #[.pointer (some ⟨bb, 0, none⟩), .slice (some ⟨g, 0, none⟩) ss.length gc, .agg #[I k, L n, U off, U v]] w (DoQ B w ss.length (doBB ss k n off v)) := by
  unfold doBB
  by_cases k0 : k = 0
  · rw [if_pos k0]; subst k0; exact bdo_0 h n off v n0 n1
  rw [if_neg k0]
  by_cases k2 : k = 2
  · rw [if_pos k2]; subst k2; exact bdo_2 h n off v o0 o1 v0 v1
  rw [if_neg k2]
  by_cases k3 : k = 3
  · rw [if_pos k3]; subst k3; exact bdo_3 h n off v
  rw [if_neg k3]
  by_cases k1 : k = 1
  · subst k1; exact bdo_1 h n off v o0 o1
  by_cases k4 : k = 4
  · subst k4; exact bdo_4 h n off v
  exact bdo_else h k n off v k0 k1 k2 k3 k4
end
end Go.Proofs.Ytfjkfigjenalgaa
