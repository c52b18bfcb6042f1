/- The document's timers: ticks. No conditions beyond those that each statement shows. -/
import Derived.Test.YtfjkfigjenalgaaX3
namespace Go.Proofs.Ytfjkfigjenalgaa
open Go.RowKit
set_option linter.unusedVariables false
set_option linter.unusedSimpArgs false

theorem info27 : (Try.prog.info? 27).map (fun i => (i.zero, i.size, i.bytes)) = some (some (.agg #[U 0, U 0, .bool false, .bool false, .bool false, U 0, U 0, .bool false]), 8, 24) := by kernel_rfl

/-- The cells of timers that lie side by side. -/
def cellsOf (ss : List CS) : List Value := (ss.map fun s => s.rc.toList).flatten
theorem cellsOf_nil : cellsOf [] = [] := rfl
theorem cellsOf_append (a b : List CS) : cellsOf (a ++ b) = cellsOf a ++ cellsOf b := by simp [cellsOf]
theorem cellsOf_one (s : CS) : cellsOf [s] = s.rc.toList := by simp [cellsOf]
theorem cellsOf_len (ss : List CS) : (cellsOf ss).length = ss.length * 8 := by
  induction ss with
  | nil => rfl
  | cons s t ih =>
    rw [show s :: t = [s] ++ t from rfl, cellsOf_append, List.length_append, ih, cellsOf_one, List.length_append]
    show 8 + _ = _
    simp; omega
theorem rc_lt {s : CS} {j : Nat} {u : Value} (h : s.rc[j]? = some u) : j < 8 := (Array.getElem?_eq_some_iff.1 h).1
theorem cellsOf_get (ss : List CS) : ∀ (i : Nat) (s : CS), ss[i]? = some s → ∀ (j : Nat) (u : Value), s.rc[j]? = some u → (cellsOf ss)[i * 8 + j]? = some u := by
  induction ss with
  | nil => intro i s h; simp at h
  | cons a t ih =>
    intro i s hs j u hu
    rw [show a :: t = [a] ++ t from rfl, cellsOf_append, cellsOf_one]
    have hj := rc_lt hu
    have ha : a.rc.toList.length = 8 := rfl
    cases i with
    | zero =>
      simp at hs
      subst hs
      rw [List.getElem?_append_left (by rw [ha]; omega)]
      simpa using hu
    | succ i =>
      rw [List.getElem?_append_right (by rw [ha]; omega), ha]
      have := ih i s (by simpa using hs) j u hu
      rw [← this]
      congr 1
      omega

/-- A row of timers' cells that a call owns: the document's timers. -/
theorem RL.of_own {w : World} {base g n cap : Nat} {ss : List CS} (h : w.ownsRow base 27 8 (.slice (some ⟨g, 0, none⟩) n cap) n (cellsOf ss)) (lo : 1 ≤ ss.length) (hi : ss.length ≤ 8) (ok : ∀ (i : Nat) (s : CS), ss[i]? = some s → s.Ok) : RL w g ss := by
  rcases h.2 with ⟨h1, _⟩ | ⟨g', cap', cur, h1, h2, h3, h4, h5, h6, h7⟩
  · cases h1
  · simp at h1
    obtain ⟨rfl, rfl⟩ := h1
    refine ⟨lo, hi, ok, fun i s hs j u hu => ?_⟩
    have e := cellsOf_get ss i s hs j u hu
    rw [← h7, List.getElem?_take] at e
    split at e
    · exact Blk.cell (show Blk w g cur 27 from h3) _ (by simpa using e)
    · cases e

theorem own_below {w w' : World} {base : Nat} {e : TypeId} {size : Nat} {v : Value} {n : Nat} {xs : List Value} (h : w.ownsRow base e size v n xs) (hb : Below w.heap.size w w') : w'.ownsRow base e size v n xs :=
  h.kept (row := none) ⟨hb.os, hb.tape, hb.output, hb.size, fun k hk _ => hb.block k hk⟩ (by cases hv : v.ownBlock <;> simp)

theorem step_tick (ss : List CS) (f : CS → CS) (q : Nat) (s : CS) (hs : ss[q]? = some s) : cellsOf ((ss.take q).map f) ++ (f s).rc.toList = cellsOf ((ss.take (q + 1)).map f) := by
  rw [List.take_add_one, hs]
  simp [cellsOf_append, cellsOf_one]

def RelTk (w0 : World) (ss : List CS) (n : Int) (k : Nat) (v i : Value) (wr : World) : Prop :=
  ∃ q : Nat, i = I (q : Nat) ∧ q ≤ ss.length ∧ k = ss.length - q ∧ wr.ownsRow w0.heap.size 27 8 v q (cellsOf ((ss.take q).map fun s => s.tick n)) ∧ Below w0.heap.size w0 wr

section
variable {w w' : World} {g cap : Nat} {ss : List CS}

set_option maxRecDepth 100000 in
set_option maxHeartbeats 2000000 in
theorem rtick_any (h : RL w g ss) (n : Int) (n0 : 0 ≤ n) (n1 : n ≤ 18446744073709551615) :
    Calls Try.prog 48 #[.slice (some ⟨g, 0, none⟩) ss.length cap, L n] w fun e w' => ∃ g' cap', e = .returned (.slice (some ⟨g', 0, none⟩) ss.length cap') ∧ RL w' g' (ss.map fun s => s.tick n) ∧ w.heap.size ≤ g' ∧ Below w.heap.size w w' := by
  obtain ⟨i27, hi, hz0, hz1, hz2⟩ := info_parts info27
  have hhi := h.hi
  have hlo := h.lo
  have HH := Lib.hid h
  clear h
  go_enter Try.func48, Try.ntmps48
  go_wp2_with fail
  go_loopg [5, 6] ss.length (fun k v i wr => RelTk w ss n k v i wr)
  case atStart => exact ⟨0, rfl, by omega, rfl, World.ownsRow_nil _ _ _ _, Below.refl _ _⟩
  case round =>
    obtain ⟨q, rfl, hq, hk, hO, hb⟩ := hrel
    have HK := Lib.hid hk
    clear hk
    by_cases hlt : q < ss.length
    · have hd : decide ((q : Int) < (ss.length : Int)) = true := by simp; omega
      have e2 : ss[q]? = some (ss[q]'hlt) := List.getElem?_eq_getElem hlt
      have hR := HH.out.below hb HH.out.lt
      have ok := hR.ok q _ e2
      generalize ss[q]'hlt = s at *
      have c0 : wr.cell? ⟨g, q * 8, none⟩ = some (U s.load) := hR.at_ q s e2 0 _ rfl
      have c1 := hR.at_ q s e2 1 _ rfl; have c2 := hR.at_ q s e2 2 _ rfl; have c3 := hR.at_ q s e2 3 _ rfl
      have c4 := hR.at_ q s e2 4 _ rfl; have c5 := hR.at_ q s e2 5 _ rfl; have c6 := hR.at_ q s e2 6 _ rfl; have c7 := hR.at_ q s e2 7 _ rfl
      have HTR := Lib.hid (tick_ref s ok n n0 n1 wr)
      have hts := s.tick_ok ok n n0
      obtain ⟨ld, va, en, re, ir, sc, ph, st⟩ := s
      have HO := Lib.hid hO
      have HB := Lib.hid hb
      have HE2 := Lib.hid e2
      have nn0 : (0 : Int) ≤ (q : Int) := by omega
      have nn1 : (q : Int) < (ss.length : Int) := by omega
      try dsimp only at c0 c1 c2 c3 c4 c5 c6 c7
      clear hR hb e2 ok hO
      go_wp2_with ((go_at_call 38; fail))
      refine HTR.out.mono ?_
      rintro e w3 ⟨rfl, hb3⟩
      clear c0 c1 c2 c3 c4 c5 c6 c7 HTR
      have hO3 := own_below HO.out hb3
      have hst := step_tick ss (fun s => s.tick n) q _ HE2.out
      dsimp only at hst
      generalize hT : CS.tick ⟨ld, va, en, re, ir, sc, ph, st⟩ n = t at *
      have HST := Lib.hid hst
      have hb3' := HB.out.trans (hb3.mono HB.out.size)
      have HB3 := Lib.hid hb3'
      have hsz := hb3'.size
      clear hT hb3 hst HB hb3'
      have HO3 : Hid ((w3.alloc (.cells t.rc 27)).ownsRow w.heap.size 27 8 _ q (cellsOf ((ss.take q).map fun s => s.tick n))) := Lib.hid (hO3.alloc _)
      have HCN : Hid (∀ j u, t.rc.toList[j]? = some u → (w3.alloc (.cells t.rc 27)).cell? ((⟨w3.heap.size, 0, none⟩ : Addr).add j) = some u) := Lib.hid (World.news_of_block (Blk.new w3 t.rc 27))
      have HC21 : Hid (∀ u ∈ t.rc.toList, u.oneCell' = true) := Lib.hid (by obtain ⟨ld', va', en', re', ir', sc', ph', st'⟩ := t; simp [CS.rc, Value.oneCell'])
      have HC31 : Hid (q + 1 ≤ maxLen) := Lib.hid (by unfold maxLen; omega)
      have HC41 : Hid ((q + 1) * 24 ≤ 140737488355328) := Lib.hid (by omega)
      have HC51 : Hid (w.heap.size ≤ (w3.alloc (.cells t.rc 27)).heap.size) := Lib.hid (by simp; omega)
      obtain ⟨ld', va', en', re', ir', sc', ph', st'⟩ := t
      clear hO3
      go_wp2_with (at_builtin; (refine wpList_append_lies _ rfl (.tmp 13) (.tmp 20) 50 rfl w.heap.size 27 i27 (.agg #[U 0, U 0, .bool false, .bool false, .bool false, U 0, U 0, .bool false]) 8 24 Try.underlying50 hi hz0 hz1 hz2 rfl (by omega) _ q _ rfl HO3.out ⟨w3.heap.size, 0, none⟩ 1 1 _ rfl rfl HCN.out HC21.out (by omega) HC31.out HC41.out HC51.out (w3.heap.size + 1) (by simp) ?_); (intro g1 cap1 w4 hown1 hgrow1 hor1 _); (have Q1 := Lib.hid hown1); (have Q2 := Lib.hid hgrow1); (clear hown1 hgrow1 hor1))
      go_roundg (ss.length - (q + 1))
      case measure => have := HK.out; omega
      case rel =>
        refine ⟨q + 1, by go_num, by omega, rfl, ?_, ?_⟩
        · rw [← HST.out]; exact Q1.out
        · exact (HB3.out.alloc hsz _).grown Q2.out (by simp; omega) (fun k hk => (HO3.out.lt k hk).1)
    · have hqe : q = ss.length := by omega
      have hd : decide ((q : Int) < (ss.length : Int)) = false := by simp; omega
      rw [hqe] at hO
      rw [hqe]
      rw [hqe] at hd
      rw [List.take_length] at hO
      obtain ⟨g', cap', rfl, hgb, hgl⟩ := hO.form (by omega)
      have hRL := RL.of_own hO (by simpa using hlo) (by simpa using hhi) (fun i s hs => by
        rw [List.getElem?_map] at hs
        obtain ⟨t, ht, rfl⟩ := Option.map_eq_some_iff.1 hs
        exact t.tick_ok (HH.out.ok i t ht) n n0)
      have HRL := Lib.hid hRL
      have HB := Lib.hid hb
      have HGB := Lib.hid hgb
      clear hRL hb hO hqe hlt hq hgb hgl
      go_wp2
      go_ret
      exact ⟨_, _, rfl, HRL.out, HGB.out, HB.out⟩
end
end Go.Proofs.Ytfjkfigjenalgaa
