/- The wheel as TopFull fills it: plain law. TopFull's loop, over a board that is told by an interface. Conditions: those that each statement shows. -/
import Derived.Test.YtkndlfdpmpdihaaGreatDoorA19
namespace Go.Proofs.YtkndlfdpmpdihaaGreatDoor
open Go.RowKit Go.Ev Go.Mv
set_option linter.unusedVariables false
set_option linter.unusedSimpArgs false
set_option maxRecDepth 100000
theorem first_free : ∀ n : Nat, n < 32 → firstN (18446744073709551615 - (2 ^ n - 1)) 0 = (n : Int) := by decide
theorem mark_next : ∀ n : Nat, n < 32 → markW (2 ^ n - 1) n true + 1 = 2 ^ (n + 1) := by decide
theorem first_again : ∀ n : Nat, n < 32 → 0 < n → firstN (18446744073709551615 - markW (2 ^ n - 1) 0 false) 0 = 0 := by decide
theorem mark_lt : ∀ n : Nat, n < 32 → markW (2 ^ n - 1) 0 false < 18446744073709551616 := by decide
structure FullW (B : WB) (r n : Nat) (S : WS) (ls : Int × Int → List Nat) : Prop where
  ok : WOk B S ls
  own2 : ¬ B.own 2
  rp : B.p.room = r
  rc : B.c.room = r
  hr : r ≤ 31
  hn : n ≤ r
  base : S.base = 0
  order : S.order = n
  free : ∀ a, n ≤ a → S.p.ent a = none
  live : ∀ a, a < n → ∃ t, S.p.ent a = some t
  gen : ∀ a, S.p.gen a = 0
  cnt : S.p.n = n
  word : S.p.word = 2 ^ n - 1
  out : ∀ a k, n ≤ a → a ∉ ls k
  key : ∀ k a, a ∈ ls k → (k.1 < 0 ∨ 8 ≤ k.1) ∨ slotK k
  fst : 0 < n → ∃ k l, ls k = 0 :: l
theorem chain0 (room : Nat) : ChainOk cs0 (fun _ => []) room :=
  ⟨fun k => rfl, fun k => trivial, fun a _ => rfl, fun k a h => (by cases h), fun k => List.nodup_nil, fun k k' a h => (by cases h)⟩
theorem full_zero {B : WB} {r : Nat} (hp : B.p.room = r) (hc : B.c.room = r) (hr : r ≤ 31) (h2 : ¬ B.own 2) : FullW B r 0 ws0 (fun _ => []) :=
  ⟨⟨chain0 _, fun k a h => (by cases h), fun i => by show 0 < _; omega, by omega⟩, h2, hp, hc, hr, Nat.zero_le _, rfl, rfl, fun a _ => rfl, fun a h => absurd h (by omega), fun a => rfl, rfl, rfl, fun a k _ h => (by cases h), fun k a h => (by cases h), fun h => absurd h (by omega)⟩
section
variable {B : WB} {S : WS} {ls : Int × Int → List Nat} {r n : Nat}
theorem FullW.add (h : FullW B r n S ls) (hlt : n < r) {d : Nat} (hd : d < 18446744073709551616) : ∃ S' ls', Ad B S d 0 (4096 + n) S' ∧ FullW B r (n + 1) S' ls' := by
  have hr := h.hr
  have hw2 : 2 ^ n ≤ 2 ^ 31 := Nat.pow_le_pow_right (by omega) (by omega)
  have hw1 : 1 ≤ 2 ^ n := Nat.one_le_two_pow
  have hA := h.ok.add h.own2 (a := n) (nw := 18446744073709551615 - (2 ^ n - 1)) (by rw [h.word]; omega) (first_free n (by omega)) (by omega) (by rw [h.rp]; exact hlt) (by rw [h.rc]; exact hlt) (h.free n (Nat.le_refl _)) (by rw [h.gen]; omega)
    (d := d) (p := 0) hd (by rw [h.base]; omega) (by rw [h.order]; omega) (fun k => h.out n k (Nat.le_refl _))
  have hh : hN S.p n = 4096 + n := by unfold hN; rw [h.gen]
  rw [hh] at hA
  refine ⟨_, _, hA.1, hA.2, h.own2, h.rp, h.rc, h.hr, by omega, h.base, ?_, ?_, ?_, h.gen, ?_, ?_, ?_, ?_, ?_⟩
  · show S.order + 1 = n + 1
    rw [h.order]
  · intro a ha
    exact (fset_ne _ _ (by omega)).trans (h.free a (by omega))
  · intro a ha
    by_cases e : a = n
    · subst e
      exact ⟨_, fset_same _ _ _⟩
    · obtain ⟨t, ht⟩ := h.live a (by omega)
      exact ⟨t, (fset_ne _ _ e).trans ht⟩
  · show S.p.n + 1 = n + 1
    rw [h.cnt]
  · show markW S.p.word n true = 2 ^ (n + 1) - 1
    rw [h.word]
    have := mark_next n (by omega)
    omega
  · intro a k ha hk
    by_cases e : k = placeOf S.base d
    · rw [e, fset_same] at hk
      simp only [List.mem_append, List.mem_singleton] at hk
      rcases hk with hk | hk
      · exact h.out a _ (by omega) hk
      · omega
    · rw [fset_ne _ _ e] at hk
      exact h.out a k (by omega) hk
  · intro k a ha
    by_cases e : k = placeOf S.base d
    · rw [e]
      exact placeOf_key _ _
    · rw [fset_ne _ _ e] at ha
      exact h.key k a ha
  · intro _
    by_cases h0 : 0 < n
    · obtain ⟨k, l, hk⟩ := h.fst h0
      by_cases e : k = placeOf S.base d
      · refine ⟨k, l ++ [n], ?_⟩
        rw [← e, fset_same, hk]
        rfl
      · exact ⟨k, l, (fset_ne _ _ e).trans hk⟩
    · have hn0 : n = 0 := by omega
      subst hn0
      refine ⟨placeOf S.base d, [], ?_⟩
      rw [fset_same]
      have : ls (placeOf S.base d) = [] := by
        cases hc : ls (placeOf S.base d) with
        | nil => rfl
        | cons a l => exact absurd (by rw [hc]; simp) (h.out a (placeOf S.base d) (Nat.zero_le _))
      rw [this]
      rfl
/-- The first one goes, another comes. -/
theorem FullW.again (h : FullW B r n S ls) (h0 : 0 < n) {d : Nat} (hd : d < 18446744073709551616) : ∃ S1 S2 v1 b1 v2 b2, Cn B S 4096 S1 ∧ Nx B S1 v1 b1 ∧ S1.p.n + 1 = n ∧ Ad B S1 d 0 8192 S2 ∧ Nx B S2 v2 b2 ∧ S2.p.n = n := by
  have hr := h.hr
  have hn := h.hn
  obtain ⟨k, l, hk⟩ := h.fst h0
  obtain ⟨t, ht⟩ := h.live 0 h0
  have hw2 : 2 ^ n ≤ 2 ^ 31 := Nat.pow_le_pow_right (by omega) (by omega)
  have hC := h.ok.cancel hk (a := 0) (t := t) ⟨ht, by omega, by rw [h.gen]; omega⟩ (by omega) (by rw [h.word]; omega) (h.key k 0 (by rw [hk]; simp))
  have hh : hN S.p 0 = 4096 := by unfold hN; rw [h.gen]
  rw [hh] at hC
  obtain ⟨v1, b1, hx1⟩ := hC.2.nx
  have hw : (S.cancel 0).p.word = markW (2 ^ n - 1) 0 false := by rw [← h.word]; rfl
  have hml := mark_lt n (by omega)
  have hout : ∀ k', 0 ∉ fset ls k l k' := by
    intro k' ha
    by_cases e : k' = k
    · subst e
      rw [fset_same] at ha
      have hnd := h.ok.ch.nodup k'
      rw [hk] at hnd
      exact (List.nodup_cons.1 hnd).1 ha
    · rw [fset_ne _ _ e] at ha
      exact e (h.ok.ch.disj k' k 0 ha (by rw [hk]; simp))
  have hg : (S.cancel 0).p.gen 0 = 1 := by
    show fset S.p.gen 0 (S.p.gen 0 + 1) 0 = 1
    rw [fset_same, h.gen]
  have hA := hC.2.add h.own2 (a := 0) (nw := 18446744073709551615 - markW (2 ^ n - 1) 0 false) (by rw [hw]; omega) (first_again n (by omega) h0) (by omega) (by rw [h.rp]; omega) (by rw [h.rc]; omega) (fset_same _ _ _) (by rw [hg]; omega)
    (d := d) (p := 0) hd (by show S.base < _; rw [h.base]; omega) (by show S.order < _; rw [h.order]; omega) hout
  have hh2 : hN (S.cancel 0).p 0 = 8192 := by unfold hN; rw [hg]
  rw [hh2] at hA
  obtain ⟨v2, b2, hx2⟩ := hA.2.nx
  have hc1 : (S.cancel 0).p.n + 1 = n := by
    show S.p.n - 1 + 1 = n
    rw [h.cnt]
    omega
  exact ⟨S.cancel 0, _, v1, b1, v2, b2, hC.1, hx1, hc1, hA.1, hx2, hc1⟩
end
end Go.Proofs.YtkndlfdpmpdihaaGreatDoor
namespace Go.Proofs.YtkndlfdpmpdihaaGreatDoor
open Go.RowKit Go.Ev Go.Mv
set_option linter.unusedVariables false
set_option linter.unusedSimpArgs false
set_option maxRecDepth 100000
section
variable {I : BI} {B : WB} {Z : SB} {a : I.A} {S : WS} {w w' : World}
theorem port_at (h : SvcAt I B Z a S w) : Calls Tryz.prog 24 #[.pointer (some ⟨Z.b, 0, none⟩)] w fun e w' => e = .returned (.pointer (some ⟨I.pb, 0, none⟩)) ∧ w' = w := by
  have c3 : w.cell? ⟨Z.b, 3, none⟩ = some (.pointer (some ⟨I.pb, 0, none⟩)) := h.blk.cell 3 rfl
  go_enter Tryz.func24, Tryz.ntmps24
  go_wp2
  refine bodyPost_ret (v := .pointer (some ⟨I.pb, 0, none⟩)) ?_ rfl ⟨rfl, rfl⟩
  simp [results, Tryz.results24, go_sem]
theorem ownsRow_tch {X : Nat → Prop} {base : Nat} {e : TypeId} {size n : Nat} {v : Value} {xs : List Value} (h : w.ownsRow base e size v n xs) (ht : Tch X w w') (hx : ∀ k, X k → k < base) : w'.ownsRow base e size v n xs := by
  refine ⟨h.1, ?_⟩
  rcases h.2 with h1 | ⟨g, cap, cur, h1, h2, h3, h4⟩
  · exact .inl h1
  · exact .inr ⟨g, cap, cur, h1, h2, (ht.block _ (Array.getElem?_eq_some_iff.1 h3).1 (fun e => by have := hx g e; omega)).trans h3, h4⟩
/-- Between two rounds of TopFull. -/
def FullRel (W : World) (I : BI) (B : WB) (Z : SB) (r n0 len : Nat) (g : Nat) (v i : Value) (wr : World) : Prop :=
  ∃ k n S ls a, k ≤ len ∧ k ≤ 60 ∧ g = 60 - k ∧ i = .int .i64 (k : Int) ∧ wr.ownsRow n0 37 1 v n ((List.range n).map fun j => .int .u64 ((4096 + j : Nat) : Int)) ∧ SvcAt I B Z a S wr ∧ 189 ≤ I.left a + 3 * k ∧ FullW B r n S ls ∧ Below W.heap.size W wr ∧ n0 ≤ wr.heap.size
end
theorem tch_below {X : Nat → Prop} {n : Nat} {w w' : World} (h : Tch X w w') (hn : n ≤ w.heap.size) (hx : ∀ k, X k → n ≤ k) : Below n w w' :=
  ⟨h.os, h.tape, h.output, h.size, fun k hk => h.block k (by omega) (fun e => by have := hx k e; omega)⟩
set_option maxHeartbeats 8000000 in
theorem full_walk (W : World) (room : Int) (p : Option Addr) (len cap : Nat) (xs : Nat → Nat) (hlen : len ≤ 9223372036854775807) (hxs : ∀ j, xs j < 18446744073709551616) (hp : 0 < len → ∃ b off, p = some ⟨b, off, none⟩ ∧ b < W.heap.size ∧ ∀ j, j < len → W.cell? ⟨b, off + j, none⟩ = some (.int .u64 (xs j)))
    (hmade : ∀ w1, Below W.heap.size W w1 → Blk w1 W.heap.size #[.int .u32 1] 22 → Calls Tryz.prog 23 #[.int .i64 room, .slice (some ⟨W.heap.size, 0, none⟩) 1 1] w1 fun e w2 => ∃ (I : BI) (B : WB) (Z : SB) (a : I.A) (x : Nat),
      e = .returned (.tuple #[.pointer (some ⟨Z.b, 0, none⟩), .pointer (some ⟨x, 0, none⟩)]) ∧ Below W.heap.size W w2 ∧ SvcAt I B Z a ws0 w2 ∧ (∃ ls, FullW B Z.room 0 ws0 ls) ∧ 1 ≤ Z.room ∧ 189 ≤ I.left a ∧ ∀ k, (I.ft k ∨ B.own k) → W.heap.size ≤ k) :
    Calls Tryz.prog 6 #[.int .i64 room, .slice p len cap] W fun e w' => e = .returned (.bool true) ∧ Below W.heap.size W w' := by
  obtain ⟨i0, hi, hz0, hz1, hz2⟩ := info_parts infoD37
  have hB1 : Below W.heap.size W (W.alloc (.cells #[.int .u32 1] 22)) := (Below.refl _ W).alloc (Nat.le_refl _) _
  have hX1 := Blk.new W #[.int .u32 1] 22
  go_enter Tryz.func6, Tryz.ntmps6
  go_wp2_with (go_at_call 23; fail)
  refine (hmade _ hB1 hX1).mono ?_
  rintro e w2 ⟨I, B, Z, a, x, rfl, hB2, hs2, ⟨ls, hF⟩, hr1, hleft, hown⟩
  clear hmade hX1 hB1
  obtain ⟨n0, hn0⟩ : ∃ n0, n0 = w2.heap.size := ⟨_, rfl⟩
  have hXlt : ∀ k, (I.ft k ∨ B.own k) → k < n0 := by
    intro k hk
    have hl := hs2.wheel.lt
    rcases hk with hk | hk
    · rw [hn0]
      exact I.lt hs2.board k hk
    · rcases hk with e | (e | e | e) | (e | e) <;> omega
  have hall : ∀ k, B.all k → k < n0 := by
    intro k hk
    have hl := hs2.wheel.lt
    rcases hk with hk | e | e
    · exact hXlt k (.inr hk)
    · omega
    · omega
  have hZn : Z.b < n0 := by rw [hn0]; exact hs2.lt
  have hWn : W.heap.size ≤ n0 := by rw [hn0]; exact hB2.size
  have hz2n : n0 ≤ w2.heap.size := by omega
  clear hn0
  go_wp2_with (first | (go_at_call 24; refine (port_at hs2).mono ?_; rintro e w3 ⟨rfl, rfl⟩) | (go_at_call 25; fail))
  refine (I.bd hs2.board).mono ?_
  rintro e w4 ⟨rfl, ht4, hs4'⟩
  have hs4 := hs2.boardT ht4 hs4'
  have hB4 : Below W.heap.size W w4 := hB2.trans (tch_below ht4 hB2.size (fun k hk => hown k (.inl hk)))
  have hz4 : n0 ≤ w4.heap.size := Nat.le_trans hz2n ht4.size
  clear hs4' hs2 ht4 hB2 hz2n
  go_wp2
  go_loopg [8, 9] 60 (fun g v i wr => FullRel W I B Z Z.room n0 len g v i wr)
  case atStart => exact ⟨0, 0, ws0, ls, a, Nat.zero_le _, Nat.zero_le _, rfl, rfl, World.ownsRow_nil _ _ _ _, hs4, hleft, hF, hB4, hz4⟩
  case round =>
    obtain ⟨k, n, S, ls, a, hk, hk60, hg, rfl, hO, hs, hleft, hF, hB, hz⟩ := hrel
    have HO := Lib.hid hO
    clear hO
    have hnr := hF.hn
    by_cases hlt : k < len
    · by_cases hlt6 : k < 60
      · have ⟨b, off, hpe, hbW, hcs⟩ := hp (by omega)
        subst hpe
        have HC := Lib.hid hcs
        clear hcs
        obtain ⟨T, hT⟩ : ∃ T, T = I.time a := ⟨_, rfl⟩
        obtain ⟨C, hC⟩ : ∃ C, C = I.cmp a := ⟨_, rfl⟩
        have htm : ∀ {w}, I.S a w → _ := fun {w} h => I.tm (a := a) (w := w) h
        have hcp : ∀ {w}, I.S a w → _ := fun {w} h => I.cp (a := a) (w := w) h
        have hlv : ∀ {w}, SvcAt I B Z a S w → Calls Tryz.prog 30 #[.pointer (some ⟨Z.b, 0, none⟩)] w fun e w' => e = .returned (.int .i64 (n : Int)) ∧ Tch I.ft w w' ∧ SvcAt I B Z a S w' := fun h => by
          rw [← hF.cnt]
          exact slive_at h
        rw [← hT] at htm
        rw [← hC] at hcp
        clear hT hC
        go_wp2_with (go_at_call 17; fail)
        refine (htm hs.board).mono ?_
        rintro e w5 ⟨rfl, ht5, hs5'⟩
        have hs5 := hs.boardT ht5 hs5'
        go_wp2_with (go_at_call 28; fail)
        refine (hcp hs5.board).mono ?_
        rintro e w6 ⟨rfl, ht6, hs6'⟩
        have hs6 := hs5.boardT ht6 hs6'
        go_wp2_with (go_at_call 30; fail)
        refine (hlv hs6).mono ?_
        rintro e w7 ⟨rfl, ht7, hs7⟩
        have hT7 : Tch (fun k => I.ft k ∨ B.own k) wr w7 := ((ht5.trans ht6).trans ht7).mono fun k e => .inl e
        have hB7 : Below W.heap.size W w7 := hB.trans (hT7.below (by omega) hown)
        have hz7 : n0 ≤ w7.heap.size := Nat.le_trans hz hT7.size
        have hO7 := ownsRow_tch HO.out hT7 hXlt
        have HO7 := Lib.hid hO7
        have c7 : w7.cell? ⟨b, off + k, none⟩ = some (.int .u64 (xs k)) := (hB7.cell (p := ⟨b, off + k, none⟩) hbW).trans (HC.out k hlt)
        clear ht5 ht6 ht7 hT7 hs5' hs6' hs5 hs6 hs hB hz hO7 HO
        by_cases hnr' : n < Z.room
        · obtain ⟨S', ls', hA, hF'⟩ := hF.add hnr' (hxs k)
          obtain ⟨v', bb', hx'⟩ := hF'.ok.nx
          have hat := sat_ok hs7 (by rw [hF.cnt]; exact hnr') hA hx' (by omega)
          have hdec : decide ((n : Int) < (Z.room : Int)) = true := by simp; exact hnr'
          go_wp2_with (go_at_call 26; fail)
          refine hat.mono ?_
          rintro e w8 ⟨rfl, ht8, a', hs8, hR8⟩
          have hl8 := lf_of hR8
          have hB8 : Below W.heap.size W w8 := hB7.trans (ht8.below (by omega) hown)
          have hz8 : n0 ≤ w8.heap.size := Nat.le_trans hz7 ht8.size
          have hO8 := ownsRow_tch HO7.out ht8 hXlt
          have HO8 := Lib.hid hO8
          clear hO8 hat hA hx' ht8 c7
          have hr31 := hF'.hr
          have hn31 := hF'.hn
          go_wp2_with (first
            | (go_at_call 32; refine (room_at hs8).mono ?_; rintro e w9 ⟨rfl, rfl⟩)
            | (at_builtin; refine wpList_append_own _ rfl (.tmp 66) (.tmp 68) 56 rfl n0 37 i0 (.int .u64 0) 1 8 underlying56 hi hz0 hz1 hz2 rfl (by decide) _ _ _ rfl (HO8.out.alloc _) ⟨w9.heap.size, 0, none⟩ 1 1 [.int .u64 (4096 + (n : Int))] rfl rfl ?c1 ?c2 ?c3 ?c4 ?c5 ?_))
          case c1 =>
            intro j u hj
            match j, hj with
            | 0, hj => simp at hj; subst hj; simp [Addr.add]
          case c2 => intro u hu; simp at hu; subst hu; rfl
          case c3 => unfold maxLen; omega
          case c4 => omega
          case c5 => simp; omega
          · intro v1 w10 hown' hgrow _
            have hlt' := (HO8.out.alloc (Obj.cells #[.int .u64 (4096 + (n : Int))] 37)).lt
            have hBa : Below n0 w9 (w9.alloc (Obj.cells #[.int .u64 (4096 + (n : Int))] 37)) := (Below.refl _ _).alloc hz8 _
            have hBn : Below n0 w9 w10 := hBa.grown hgrow (by simp; omega) (fun k e => (hlt' k e).1)
            have hT10 : Tch (fun k => n0 ≤ k) w9 w10 := ⟨hBn.os, hBn.tape, hBn.output, hBn.size, fun j _ hn => hBn.block j (by omega)⟩
            have hs10 : SvcAt I B Z a' S' w10 := by
              refine hs8.tch hT10 ?_ ?_ ?_
              · omega
              · intro k hk e
                have := hall k hk
                omega
              · intro k e
                have h8 := hs8.hi B.b (.inl (.inl rfl))
                have hb0 := hall B.b (.inl (.inl rfl))
                exact ⟨fun hk => by have := hXlt k (.inl hk); omega, by omega⟩
            have hO10 : w10.ownsRow n0 37 1 v1 (n + 1) ((List.range (n + 1)).map fun j => .int .u64 ((4096 + j : Nat) : Int)) := by
              have := hown'
              simpa [List.range_succ] using this
            have HO10 := Lib.hid hO10
            have hB10 : Below W.heap.size W w10 := hB8.trans (hBn.mono hWn)
            have hz10 : n0 ≤ w10.heap.size := Nat.le_trans hz8 hBn.size
            clear hown' hgrow hlt' hO10 HO8 HO7 hT10 hBa
            go_wp2
            go_roundg (60 - (k + 1))
            case measure => rw [hg]; exact Nat.sub_lt_sub_left hlt6 (Nat.lt_succ_self k)
            case rel => exact ⟨k + 1, n + 1, S', ls', a', by omega, by omega, rfl, by simp, HO10.out, hs10, by omega, hF', hB10, hz10⟩
        · have hge : Z.room ≤ S.p.n := by rw [hF.cnt]; omega
          have hdec : decide ((n : Int) < (Z.room : Int)) = false := by simp; omega
          go_wp2_with (go_at_call 26; fail)
          refine (sat_full hs7 hge).mono ?_
          rintro e w8 ⟨rfl, ht8, hs8⟩
          have hT8 : Tch (fun k => I.ft k ∨ B.own k) w7 w8 := ht8.mono fun k e => .inl e
          have hB8 : Below W.heap.size W w8 := hB7.trans (hT8.below (by omega) hown)
          have c8 : w8.cell? ⟨b, off + k, none⟩ = some (.int .u64 (xs k)) := (hB8.cell (p := ⟨b, off + k, none⟩) hbW).trans (HC.out k hlt)
          go_wp2_with (first | (go_at_call 32; refine (room_at hs8).mono ?_; rintro e w9 ⟨rfl, rfl⟩) | (go_at_call 33; fail))
          refine (after_full hs8 hge).mono ?_
          rintro e w10 ⟨rfl, ht10, hs10⟩
          go_wp2_with (go_at_call 17; fail)
          refine (htm hs10.board).mono ?_
          rintro e w11 ⟨rfl, ht11, hs11'⟩
          have hs11 := hs10.boardT ht11 hs11'
          go_wp2_with (go_at_call 28; fail)
          refine (hcp hs11.board).mono ?_
          rintro e w12 ⟨rfl, ht12, hs12'⟩
          have hs12 := hs11.boardT ht12 hs12'
          go_wp2_with (go_at_call 30; fail)
          refine (hlv hs12).mono ?_
          rintro e w13 ⟨rfl, ht13, hs13⟩
          have hT13 : Tch (fun k => I.ft k ∨ B.own k) _ w13 := (((ht10.trans ht11).trans ht12).trans ht13).mono fun k e => Or.inl e
          have hO13 := ownsRow_tch (ownsRow_tch HO7.out hT8 hXlt) hT13 hXlt
          have HO13 := Lib.hid hO13
          have hB13 : Below W.heap.size W w13 := hB8.trans (hT13.below (by have := hT8.size; omega) hown)
          have hz13 : n0 ≤ w13.heap.size := Nat.le_trans hz7 (Nat.le_trans hT8.size hT13.size)
          clear hO13 HO7 hT13 hT8 c8
          go_wp2
          go_roundg (60 - (k + 1))
          case measure => rw [hg]; exact Nat.sub_lt_sub_left hlt6 (Nat.lt_succ_self k)
          case rel => exact ⟨k + 1, n, S, ls, a, by omega, by omega, rfl, by simp, HO13.out, hs13, by omega, hF, hB13, hz13⟩
      · have hlt6' : ¬ ((k : Int) < 60) := by omega
        have hlv : ∀ {w} {a : I.A} {S : WS}, S.p.n = n → SvcAt I B Z a S w → Calls Tryz.prog 30 #[.pointer (some ⟨Z.b, 0, none⟩)] w fun e w' => e = .returned (.int .i64 (n : Int)) ∧ Tch I.ft w w' ∧ SvcAt I B Z a S w' := fun h1 h => by
          rw [← h1]
          exact slive_at h
        have hSn := hF.cnt
        by_cases hnr' : n < Z.room
        · have hdec : decide ((n : Int) < (Z.room : Int)) = true := by simp; exact hnr'
          rcases HO.out with ⟨hl0, ⟨rfl, hd0⟩ | ⟨g, cap1, cur, rfl, hbg, hg1, hnc, hcm, hcsz, htk⟩⟩
          · subst hd0
            clear hl0
            go_wp2_with (first | (go_at_call 32; refine (room_at hs).mono ?_; rintro e w9 ⟨rfl, rfl⟩) | (go_at_call 21; fail))
            refine (I.lv hs.board).mono ?_
            rintro e w10 ⟨rfl, ht10, hs10'⟩
            have hs10 := hs.boardT ht10 hs10'
            go_wp2_with (go_at_call 30; fail)
            refine (hlv hSn hs10).mono ?_
            rintro e w11 ⟨rfl, ht11, hs11⟩
            go_wp2
            refine bodyPost_ret (v := .bool true) ?_ rfl ⟨rfl, hB.trans ((ht10.trans ht11).below (by omega) (fun k e => hown k (.inl e)))⟩
            simp [results, Tryz.results6, go_sem]
          · clear hl0 hg1 hcsz htk
            go_wp2_with (first | (go_at_call 32; refine (room_at hs).mono ?_; rintro e w9 ⟨rfl, rfl⟩) | (go_at_call 21; fail))
            refine (I.lv hs.board).mono ?_
            rintro e w10 ⟨rfl, ht10, hs10'⟩
            have hs10 := hs.boardT ht10 hs10'
            go_wp2_with (go_at_call 30; fail)
            refine (hlv hSn hs10).mono ?_
            rintro e w11 ⟨rfl, ht11, hs11⟩
            go_wp2
            refine bodyPost_ret (v := .bool true) ?_ rfl ⟨rfl, hB.trans ((ht10.trans ht11).below (by omega) (fun k e => hown k (.inl e)))⟩
            simp [results, Tryz.results6, go_sem]
        · have hdec : decide ((n : Int) < (Z.room : Int)) = false := by simp; omega
          have hnz : 0 < n := by omega
          have hnR : (Z.room : Int) = (n : Int) := by omega
          obtain ⟨S1, S2, v1, b1, v2, b2, hC1, hx1, hn1, hA2, hx2, hn2⟩ := hF.again hnz (d := 5) (by omega)
          rcases HO.out with ⟨hl0, ⟨rfl, hd0⟩ | ⟨g, cap1, cur, rfl, hbg, hg1, hnc, hcm, hcsz, htk⟩⟩
          · omega
          · have q0 : ∀ w : World, w.ownsRow n0 37 1 (.slice (some ⟨g, 0, none⟩) n cap1) n ((List.range n).map fun j => .int .u64 ((4096 + j : Nat) : Int)) → w.cell? ⟨g, 0, none⟩ = some (.int .u64 4096) := fun w hw => by
              have := hw.cells (g := g) rfl 0 (.int .u64 4096) (by simp [hnz])
              simpa [Addr.add] using this
            have qw := q0 _ HO.out
            clear hl0 hg1 hcsz htk
            go_wp2_with (first | (go_at_call 32; refine (room_at hs).mono ?_; rintro e w9 ⟨rfl, rfl⟩) | (go_at_call 34; fail))
            refine (scancel_ok hs hC1 hx1 (by omega)).mono ?_
            rintro e w10 ⟨rfl, ht10, a1, hs10, hR10⟩
            have hl10 := lf_of hR10
            go_wp2_with (go_at_call 26; fail)
            refine (sat_ok hs10 (by omega) hA2 hx2 (by omega)).mono ?_
            rintro e w11 ⟨rfl, ht11, a2, hs11, _⟩
            have hT11 := ht10.trans ht11
            have hB11 := hB.trans (hT11.below (by omega) hown)
            have hO11 := ownsRow_tch HO.out hT11 hXlt
            go_wp2_with (go_at_call 21; fail)
            refine (I.lv hs11.board).mono ?_
            rintro e w12 ⟨rfl, ht12, hs12'⟩
            have hs12 := hs11.boardT ht12 hs12'
            have hT12 : Tch (fun k => I.ft k ∨ B.own k) w11 w12 := ht12.mono fun k e => .inl e
            have qw12 := q0 _ (ownsRow_tch hO11 hT12 hXlt)
            have hB12 := hB11.trans (hT12.below (by have := hT11.size; omega) hown)
            clear q0 hO11
            go_wp2_with (go_at_call 30; fail)
            refine (hlv hn2 hs12).mono ?_
            rintro e w13 ⟨rfl, ht13, hs13⟩
            go_wp2_with (go_at_call 32; refine (room_at hs13).mono ?_; rintro e w14 ⟨rfl, rfl⟩)
            refine bodyPost_ret (v := .bool true) ?_ rfl ⟨rfl, hB12.trans (ht13.below (by have := hT11.size; have := hT12.size; omega) (fun k e => hown k (.inl e)))⟩
            simp [results, Tryz.results6, go_sem]
    · have hlt' : ¬ ((k : Int) < (len : Int)) := by omega
      have hlv : ∀ {w} {a : I.A} {S : WS}, S.p.n = n → SvcAt I B Z a S w → Calls Tryz.prog 30 #[.pointer (some ⟨Z.b, 0, none⟩)] w fun e w' => e = .returned (.int .i64 (n : Int)) ∧ Tch I.ft w w' ∧ SvcAt I B Z a S w' := fun h1 h => by
        rw [← h1]
        exact slive_at h
      have hSn := hF.cnt
      by_cases hnr' : n < Z.room
      · have hdec : decide ((n : Int) < (Z.room : Int)) = true := by simp; exact hnr'
        rcases HO.out with ⟨hl0, ⟨rfl, hd0⟩ | ⟨g, cap1, cur, rfl, hbg, hg1, hnc, hcm, hcsz, htk⟩⟩
        · subst hd0
          clear hl0
          go_wp2_with (first | (go_at_call 32; refine (room_at hs).mono ?_; rintro e w9 ⟨rfl, rfl⟩) | (go_at_call 21; fail))
          refine (I.lv hs.board).mono ?_
          rintro e w10 ⟨rfl, ht10, hs10'⟩
          have hs10 := hs.boardT ht10 hs10'
          go_wp2_with (go_at_call 30; fail)
          refine (hlv hSn hs10).mono ?_
          rintro e w11 ⟨rfl, ht11, hs11⟩
          go_wp2
          refine bodyPost_ret (v := .bool true) ?_ rfl ⟨rfl, hB.trans ((ht10.trans ht11).below (by omega) (fun k e => hown k (.inl e)))⟩
          simp [results, Tryz.results6, go_sem]
        · clear hl0 hg1 hcsz htk
          go_wp2_with (first | (go_at_call 32; refine (room_at hs).mono ?_; rintro e w9 ⟨rfl, rfl⟩) | (go_at_call 21; fail))
          refine (I.lv hs.board).mono ?_
          rintro e w10 ⟨rfl, ht10, hs10'⟩
          have hs10 := hs.boardT ht10 hs10'
          go_wp2_with (go_at_call 30; fail)
          refine (hlv hSn hs10).mono ?_
          rintro e w11 ⟨rfl, ht11, hs11⟩
          go_wp2
          refine bodyPost_ret (v := .bool true) ?_ rfl ⟨rfl, hB.trans ((ht10.trans ht11).below (by omega) (fun k e => hown k (.inl e)))⟩
          simp [results, Tryz.results6, go_sem]
      · have hdec : decide ((n : Int) < (Z.room : Int)) = false := by simp; omega
        have hnz : 0 < n := by omega
        have hnR : (Z.room : Int) = (n : Int) := by omega
        obtain ⟨S1, S2, v1, b1, v2, b2, hC1, hx1, hn1, hA2, hx2, hn2⟩ := hF.again hnz (d := 5) (by omega)
        rcases HO.out with ⟨hl0, ⟨rfl, hd0⟩ | ⟨g, cap1, cur, rfl, hbg, hg1, hnc, hcm, hcsz, htk⟩⟩
        · omega
        · have q0 : ∀ w : World, w.ownsRow n0 37 1 (.slice (some ⟨g, 0, none⟩) n cap1) n ((List.range n).map fun j => .int .u64 ((4096 + j : Nat) : Int)) → w.cell? ⟨g, 0, none⟩ = some (.int .u64 4096) := fun w hw => by
            have := hw.cells (g := g) rfl 0 (.int .u64 4096) (by simp [hnz])
            simpa [Addr.add] using this
          have qw := q0 _ HO.out
          clear hl0 hg1 hcsz htk
          go_wp2_with (first | (go_at_call 32; refine (room_at hs).mono ?_; rintro e w9 ⟨rfl, rfl⟩) | (go_at_call 34; fail))
          refine (scancel_ok hs hC1 hx1 (by omega)).mono ?_
          rintro e w10 ⟨rfl, ht10, a1, hs10, hR10⟩
          have hl10 := lf_of hR10
          go_wp2_with (go_at_call 26; fail)
          refine (sat_ok hs10 (by omega) hA2 hx2 (by omega)).mono ?_
          rintro e w11 ⟨rfl, ht11, a2, hs11, _⟩
          have hT11 := ht10.trans ht11
          have hB11 := hB.trans (hT11.below (by omega) hown)
          have hO11 := ownsRow_tch HO.out hT11 hXlt
          go_wp2_with (go_at_call 21; fail)
          refine (I.lv hs11.board).mono ?_
          rintro e w12 ⟨rfl, ht12, hs12'⟩
          have hs12 := hs11.boardT ht12 hs12'
          have hT12 : Tch (fun k => I.ft k ∨ B.own k) w11 w12 := ht12.mono fun k e => .inl e
          have qw12 := q0 _ (ownsRow_tch hO11 hT12 hXlt)
          have hB12 := hB11.trans (hT12.below (by have := hT11.size; omega) hown)
          clear q0 hO11
          go_wp2_with (go_at_call 30; fail)
          refine (hlv hn2 hs12).mono ?_
          rintro e w13 ⟨rfl, ht13, hs13⟩
          go_wp2_with (go_at_call 32; refine (room_at hs13).mono ?_; rintro e w14 ⟨rfl, rfl⟩)
          refine bodyPost_ret (v := .bool true) ?_ rfl ⟨rfl, hB12.trans (ht13.below (by have := hT11.size; have := hT12.size; omega) (fun k e => hown k (.inl e)))⟩
          simp [results, Tryz.results6, go_sem]
end Go.Proofs.YtkndlfdpmpdihaaGreatDoor
