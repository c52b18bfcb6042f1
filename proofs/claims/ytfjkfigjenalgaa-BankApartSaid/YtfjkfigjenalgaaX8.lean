/- The law's own functions: a call, of both the bank and the document's timers. No conditions beyond those that each statement shows. -/
import Derived.Test.YtfjkfigjenalgaaX7
namespace Go.Proofs.Ytfjkfigjenalgaa
open Go.RowKit
set_option linter.unusedVariables false
set_option linter.unusedSimpArgs false

/-- What a call leaves. -/
def doBB (ss : List CS) (k n off v : Int) : List CS := if k = 0 then ss.map (fun s => s.tick n) else if k = 2 then (bstoreB ss off v).1 else if k = 3 then ss.map (fun _ => CS.zero) else ss

theorem bstoreB_len (ss : List CS) (off v : Int) : (bstoreB ss off v).1.length = ss.length := by
  unfold bstoreB
  split
  · rfl
  · split <;> simp
theorem doBB_len (ss : List CS) (k n off v : Int) : (doBB ss k n off v).length = ss.length := by
  unfold doBB
  split
  · simp
  · split
    · exact bstoreB_len ss off v
    · split <;> simp

/-- A bank and the document's timers, of the same states; the bank's timers lie from B on. -/
structure BS (B : Nat) (w : World) (bb ab cap g : Nat) (cs : List Nat) (ss : List CS) : Prop where
  bk : BK w bb ab cap cs ss
  rl : RL w g ss
  gn : g ∉ cs
  lo : ∀ c ∈ cs, B ≤ c
  sz : B ≤ w.heap.size

theorem BK.lt {w : World} {bb ab cap : Nat} {cs : List Nat} {ss : List CS} (h : BK w bb ab cap cs ss) : ∀ c ∈ cs, c < w.heap.size := fun c hc => by
  obtain ⟨i, hi, rfl⟩ := List.getElem_of_mem hc
  have hs : ss[i]? = some (ss[i]'(by rw [← h.len]; exact hi)) := List.getElem?_eq_getElem _
  exact (h.tm i _ _ (List.getElem?_eq_getElem hi) hs).1.lt

theorem BS.below {B : Nat} {w w' : World} {bb ab cap g : Nat} {cs : List Nat} {ss : List CS} (h : BS B w bb ab cap g cs ss) (hb : Below w.heap.size w w') : BS B w' bb ab cap g cs ss :=
  ⟨h.bk.below hb, h.rl.below hb h.rl.lt, h.gn, h.lo, Nat.le_trans h.sz hb.size⟩

/-- What Do answers. -/
def DoQ (B : Nat) (w : World) (n : Nat) (ss' : List CS) (e : Ending) (w' : World) : Prop :=
  ∃ bb' ab' cap' g' gc' cs', e = .returned (.tuple #[.pointer (some ⟨bb', 0, none⟩), .slice (some ⟨g', 0, none⟩) n gc', .bool true]) ∧ BS B w' bb' ab' cap' g' cs' ss' ∧ Below B w w'

section
variable {B : Nat} {w w' : World} {bb ab cap g gc : Nat} {cs : List Nat} {ss : List CS}

set_option maxRecDepth 100000 in
set_option maxHeartbeats 1000000 in
theorem bdo_else (h : BS B w bb ab cap g cs ss) (k n off v : Int) (k0 : k ≠ 0) (k1 : k ≠ 1) (k2 : k ≠ 2) (k3 : k ≠ 3) (k4 : k ≠ 4) :
    Calls Try.prog 26 #[.pointer (some ⟨bb, 0, none⟩), .slice (some ⟨g, 0, none⟩) ss.length gc, .agg #[I k, L n, U off, U v]] w (DoQ B w ss.length ss) := by
  have q0 : (k == 0) = false := by simp [k0]
  have q1 : (k == 1) = false := by simp [k1]
  have q2 : (k == 2) = false := by simp [k2]
  have q3 : (k == 3) = false := by simp [k3]
  have q4 : (k == 4) = false := by simp [k4]
  have b1 := (Below.refl w.heap.size w).alloc (Nat.le_refl _) (.cells #[I k, L n, U off, U v] 53)
  have H := Lib.hid (h.below b1)
  have HB := Lib.hid (b1.mono h.sz)
  clear h b1
  go_enter Try.func26, Try.ntmps26
  go_wp2_with fail
  refine bodyPost_ret (v := .tuple #[.pointer (some ⟨bb, 0, none⟩), .slice (some ⟨g, 0, none⟩) ss.length gc, .bool true]) (by simp [results, Try.results26, go_sem]) rfl ?_
  exact ⟨_, _, _, _, _, _, rfl, H.out, HB.out⟩

set_option maxRecDepth 100000 in
set_option maxHeartbeats 1000000 in
theorem bdo_0 (h : BS B w bb ab cap g cs ss) (n off v : Int) (n0 : 0 ≤ n) (n1 : n ≤ 18446744073709551615) :
    Calls Try.prog 26 #[.pointer (some ⟨bb, 0, none⟩), .slice (some ⟨g, 0, none⟩) ss.length gc, .agg #[I 0, L n, U off, U v]] w (DoQ B w ss.length (ss.map fun s => s.tick n)) := by
  have b1 := (Below.refl w.heap.size w).alloc (Nat.le_refl _) (.cells #[I 0, L n, U off, U v] 53)
  have H := Lib.hid (h.below b1)
  have hsz := h.sz
  have hcl := h.bk.lt
  have HL := Lib.hid hcl
  have HB := Lib.hid (b1.mono h.sz)
  have HA := Lib.hid (Blk.new w #[I 0, L n, U off, U v] 53)
  clear h b1 hcl
  go_enter Try.func26, Try.ntmps26
  go_wp2_with (go_at_call 31; fail)
  refine (btick_any H.out.bk n n0 n1).mono ?_
  rintro e w2 ⟨rfl, BK2, K2⟩
  have HA2 := K2.blk HA.out (fun hm => by have := HL.out _ hm; omega)
  have RL2 := Lib.hid (H.out.rl.kept K2 H.out.gn)
  have HBK2 := Lib.hid BK2
  have HB2 := Lib.hid (HB.out.trans (K2.below_ H.out.lo H.out.sz))
  have a1 := HA2.cell 1 rfl
  have a2 := HA2.cell 2 rfl
  have a3 := HA2.cell 3 rfl
  clear BK2 K2 HA2
  go_wp2_with (go_at_call 48; fail)
  refine (rtick_any RL2.out n n0 n1).mono ?_
  rintro e w3 ⟨g', gc', rfl, R3, hg, b3⟩
  have hg2 : g' ∉ cs := fun hm => by have := HBK2.out.lt _ hm; omega
  have HF := Lib.hid (show BS B w3 bb ab cap g' cs (ss.map fun s => s.tick n) from ⟨HBK2.out.below b3, R3, hg2, H.out.lo, Nat.le_trans hsz (Nat.le_trans HB2.out.size b3.size)⟩)
  have HB3 := Lib.hid (HB2.out.trans (b3.mono (Nat.le_trans hsz HB2.out.size)))
  clear R3 b3 hg2 a1 a2 a3
  go_wp2_with fail
  refine bodyPost_ret (v := .tuple #[.pointer (some ⟨bb, 0, none⟩), .slice (some ⟨g', 0, none⟩) ss.length gc', .bool true]) (by simp [results, Try.results26, go_sem]) rfl ?_
  exact ⟨_, _, _, _, _, _, rfl, HF.out, HB3.out⟩

theorem rload_of (h : RL w g ss) (off : Int) (h0 : 0 ≤ off) (h1 : off ≤ 4294967295) {x e : Int} (hv : Hid (bloadB ss off = (x, e))) :
    Calls Try.prog 49 #[.slice (some ⟨g, 0, none⟩) ss.length gc, U off] w fun r w' => r = .returned (.tuple #[U x, I e]) ∧ Below w.heap.size w w' := by
  have := rload_any (cap := gc) h off h0 h1
  rw [hv.out] at this; exact this
theorem bload_of (h : BK w bb ab cap cs ss) (off : Int) (h0 : 0 ≤ off) (h1 : off ≤ 4294967295) {x e : Int} (hv : Hid (bloadB ss off = (x, e))) :
    Calls Try.prog 32 #[.pointer (some ⟨bb, 0, none⟩), U off] w fun r w' => r = .returned (.tuple #[U x, I e]) ∧ w = w' := by
  have := bload_any h off h0 h1
  rw [hv.out] at this; exact this
theorem rstore_of (h : RL w g ss) (off v : Int) (h0 : 0 ≤ off) (h1 : off ≤ 4294967295) (v0 : 0 ≤ v) (v1 : v ≤ 4294967295) {ss' : List CS} {e : Int} (hv : Hid (bstoreB ss off v = (ss', e))) :
    Calls Try.prog 50 #[.slice (some ⟨g, 0, none⟩) ss.length gc, U off, U v] w fun r w' => ∃ g' cap', r = .returned (.tuple #[.slice (some ⟨g', 0, none⟩) ss.length cap', I e]) ∧ RL w' g' ss' ∧ (g' = g ∨ w.heap.size ≤ g') ∧ Below w.heap.size w w' := by
  have := rstore_any (cap := gc) h off v h0 h1 v0 v1
  rw [hv.out] at this; exact this
theorem bstore_of (h : BK w bb ab cap cs ss) (off v : Int) (h0 : 0 ≤ off) (h1 : off ≤ 4294967295) (v0 : 0 ≤ v) (v1 : v ≤ 4294967295) {ss' : List CS} {e : Int} (hv : Hid (bstoreB ss off v = (ss', e))) :
    Calls Try.prog 28 #[.pointer (some ⟨bb, 0, none⟩), U off, U v] w fun r w' => r = .returned (I e) ∧ BK w' bb ab cap cs ss' ∧ Kept w w' cs := by
  have := bstore_any h off v h0 h1 v0 v1
  rw [hv.out] at this; exact this

set_option maxRecDepth 100000 in
set_option maxHeartbeats 1000000 in
theorem bdo_1 (h : BS B w bb ab cap g cs ss) (n off v : Int) (o0 : 0 ≤ off) (o1 : off ≤ 4294967295) :
    Calls Try.prog 26 #[.pointer (some ⟨bb, 0, none⟩), .slice (some ⟨g, 0, none⟩) ss.length gc, .agg #[I 1, L n, U off, U v]] w (DoQ B w ss.length ss) := by
  have b1 := (Below.refl w.heap.size w).alloc (Nat.le_refl _) (.cells #[I 1, L n, U off, U v] 53)
  have H := Lib.hid (h.below b1)
  have hsz := h.sz
  have HB := Lib.hid (b1.mono h.sz)
  have HA := Lib.hid (Blk.new w #[I 1, L n, U off, U v] 53)
  obtain ⟨x, e, HV⟩ : ∃ x e, Hid (bloadB ss off = (x, e)) := ⟨_, _, Lib.hid rfl⟩
  clear h b1
  go_enter Try.func26, Try.ntmps26
  go_wp2_with (go_at_call 49; fail)
  refine (rload_of H.out.rl off o0 o1 HV).mono ?_
  rintro e w2 ⟨rfl, b2⟩
  have HA2 := HA.out.below b2 HA.out.lt
  have H2 := Lib.hid (H.out.below b2)
  have HB2 := Lib.hid (HB.out.trans (b2.mono H.out.sz))
  have a2 := HA2.cell 2 rfl
  clear b2 HA2
  go_wp2_with (go_at_call 32; fail)
  refine (bload_of H2.out.bk off o0 o1 HV).mono ?_
  rintro e w3 ⟨rfl, rfl⟩
  go_wp2_with fail
  refine bodyPost_ret (v := .tuple #[.pointer (some ⟨bb, 0, none⟩), .slice (some ⟨g, 0, none⟩) ss.length gc, .bool true]) (by simp [results, Try.results26, go_sem]) rfl ?_
  exact ⟨_, _, _, _, _, _, rfl, H2.out, HB2.out⟩

set_option maxRecDepth 100000 in
set_option maxHeartbeats 1000000 in
theorem bdo_2 (h : BS B w bb ab cap g cs ss) (n off v : Int) (o0 : 0 ≤ off) (o1 : off ≤ 4294967295) (v0 : 0 ≤ v) (v1 : v ≤ 4294967295) :
    Calls Try.prog 26 #[.pointer (some ⟨bb, 0, none⟩), .slice (some ⟨g, 0, none⟩) ss.length gc, .agg #[I 2, L n, U off, U v]] w (DoQ B w ss.length (bstoreB ss off v).1) := by
  have b1 := (Below.refl w.heap.size w).alloc (Nat.le_refl _) (.cells #[I 2, L n, U off, U v] 53)
  have H := Lib.hid (h.below b1)
  have hsz := h.sz
  have HL := Lib.hid h.bk.lt
  have HB := Lib.hid (b1.mono h.sz)
  have HA := Lib.hid (Blk.new w #[I 2, L n, U off, U v] 53)
  obtain ⟨ss', e, HV⟩ : ∃ ss' e, Hid (bstoreB ss off v = (ss', e)) := ⟨_, _, Lib.hid rfl⟩
  rw [HV.out]
  dsimp only
  clear h b1
  go_enter Try.func26, Try.ntmps26
  go_wp2_with (go_at_call 50; fail)
  refine (rstore_of H.out.rl off v o0 o1 v0 v1 HV).mono ?_
  rintro e w2 ⟨g', gc', rfl, R2, hg, b2⟩
  have HA2 := HA.out.below b2 HA.out.lt
  have hcl := H.out.bk.lt
  have hg2 : g' ∉ cs := by
    rcases hg with rfl | hg
    · exact H.out.gn
    · intro hm; have := hcl _ hm; omega
  have HBK2 := Lib.hid (H.out.bk.below b2)
  have HB2 := Lib.hid (HB.out.trans (b2.mono H.out.sz))
  have HG2 := Lib.hid hg2
  have HR2 := Lib.hid R2
  have HSZ := Lib.hid (Nat.le_trans H.out.sz b2.size)
  have a2 := HA2.cell 2 rfl
  have a3 := HA2.cell 3 rfl
  clear b2 HA2 hcl hg hg2 R2
  go_wp2_with (go_at_call 28; fail)
  refine (bstore_of HBK2.out off v o0 o1 v0 v1 HV).mono ?_
  rintro e w3 ⟨rfl, B3, K3⟩
  have HF := Lib.hid (show BS B w3 bb ab cap g' cs ss' from ⟨B3, HR2.out.kept K3 HG2.out, HG2.out, H.out.lo, Nat.le_trans HSZ.out K3.size⟩)
  have HB3 := Lib.hid (HB2.out.trans (K3.below_ H.out.lo HSZ.out))
  clear B3 K3 a2 a3
  go_wp2_with fail
  refine bodyPost_ret (v := .tuple #[.pointer (some ⟨bb, 0, none⟩), .slice (some ⟨g', 0, none⟩) ss.length gc', .bool true]) (by simp [results, Try.results26, go_sem]) rfl ?_
  exact ⟨_, _, _, _, _, _, rfl, HF.out, HB3.out⟩
end
end Go.Proofs.Ytfjkfigjenalgaa
