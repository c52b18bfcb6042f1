/- The least deadline of a place. Chains told by lists: plain law. What is taken: the next of a level. What is taken, thing by thing: the iterator. What is taken, thing by thing: the iterator's walk. What is taken: the lowest. Conditions: those that each statement shows. -/
import Derived.Test.YtkndlfdpmpdihaaGreatDoorA16
import Derived.Deep.DeepCutAuto
import Derived.Test.YtkndlfdpmpdihaaGreatDoorA13
import Derived.RangeFuncNested
import Derived.RangeFuncBound
import Derived.RangeFuncCalls
import Derived.RangeFuncLeaves
import Derived.RangeFuncBox
import Derived.Shelf.Abstract
import Derived.WalkKit
import Derived.OwnWalkIn
import Derived.TacticsInMore
import Derived.LoopNIn
import Derived.LoopIn
import Derived.Sort.LoopGhostIn
import Derived.Test.YtkndlfdpmpdihaaGreatDoorA11
namespace Go.Proofs.YtkndlfdpmpdihaaGreatDoor
open Go.RowKit Go.Ev Go.Mv
set_option linter.unusedVariables false
set_option linter.unusedSimpArgs false
set_option maxRecDepth 100000
section
variable {B : WB} {S : WS} {w w' : World}
/-- The things of a chain, in their order, from one of them on. -/
def Trail (link : Nat → Lk) : Int → List Nat → Prop
  | i, [] => i = -1
  | i, a :: l => i = (a : Int) ∧ (link a).ins = true ∧ Trail link (link a).be l
/-- What a place's timer has for a deadline. -/
def dlOf (S : WS) (a : Nat) : Int := match S.p.ent a with
  | some t => t.d
  | none => 0
theorem underlying56 : Tryz.prog.underlying 56 = some (.slice 37) := by kernel_rfl
theorem infoD37 : (Tryz.prog.info? 37).map (fun i => (i.zero, i.size, i.bytes)) = some (some (.int .u64 0), 1, 8) := by kernel_rfl
theorem grown_of_below {w w' : World} (h : Below w.heap.size w w') (row : Option Nat) : w.grownBy w' row := ⟨h.os, h.tape, h.output, h.size, fun k hk _ => h.block k hk⟩
def LeastRel (B : WB) (S : WS) (w : World) (L : List Nat) (g : Nat) (v i : Value) (wr : World) : Prop :=
  ∃ done rest j, L = done ++ rest ∧ Trail S.c.link j rest ∧ i = .int .i64 j ∧ g = rest.length ∧ wr.ownsRow w.heap.size 37 1 v done.length (done.map fun a => .int .u64 (dlOf S a)) ∧ Below w.heap.size w wr
set_option maxHeartbeats 4000000 in
theorem least_at (h : WheelAt B S w) {l s : Int} {L : List Nat} (hT : Trail S.c.link (firstOf (S.c.head (l, s))) L) (hL : ∀ a ∈ L, a < B.c.room ∧ ∃ t, LiveAt S.p a t) (hn : L.length ≤ 64) :
    Calls Tryz.prog 190 #[.pointer (some ⟨B.b, 0, none⟩), .agg #[.int .i64 l, .int .i64 s]] w fun e w' =>
    e = .returned (.tuple #[.int .u64 (Lib.minOf (L.map (dlOf S))), .bool (decide (L ≠ []))]) ∧ Below w.heap.size w w' := by
  have hlw := h.lt
  obtain ⟨i0, hi, hz0, hz1, hz2⟩ := info_parts infoD37
  go_enter Tryz.func190, Tryz.ntmps190
  have hBa : Below w.heap.size w (w.alloc (Obj.cells #[.int .i64 l, .int .i64 s] 219)) := (Below.refl _ w).alloc (Nat.le_refl _) _
  have h0 := h.below hBa hlw
  have hX := Blk.new w #[.int .i64 l, .int .i64 s] 219
  go_wp2
  generalize w.alloc (Obj.cells #[.int .i64 l, .int .i64 s] 219) = w2 at *
  have hl2 := h0.lt
  have c1 : ∀ x : WX w2, x.w.cell? ⟨B.b, 1, none⟩ = some (.pointer (some ⟨B.c.b, 0, none⟩)) := h0.blk.wx 1 rfl
  have c2 : ∀ x : WX w2, x.w.cell? ⟨w.heap.size, 0, none⟩ = some (.int .i64 l) := hX.wx 0 rfl
  have c3 : ∀ x : WX w2, x.w.cell? ⟨w.heap.size, 1, none⟩ = some (.int .i64 s) := hX.wx 1 rfl
  refine wp_region_grown (by kernel_rfl) (by kernel_rfl) ?_
  repeat (go_big_quiet_step (first | (go_at_call 245; exact WX.of (first_of (h0.below (by first | assumption | exact WX.h _) hl2).chain l s))))
  refine wpQuiet_nil ?_
  intro w5 hb5
  have h5 := h0.below hb5 hl2
  have hB5 : Below w.heap.size w w5 := hBa.trans (hb5.mono hBa.size)
  clear c1 c2 c3 hX hb5 hBa
  go_wp2
  go_loopg [6, 7] L.length (fun g v i wr => LeastRel B S w L g v i wr)
  case atStart => exact ⟨[], L, _, rfl, hT, rfl, rfl, World.ownsRow_nil _ _ _ _, hB5⟩
  case round =>
    obtain ⟨done, rest, j, hLe, hTr, rfl, rfl, hO, hB⟩ := hrel
    have HO := Lib.hid hO
    clear hO
    have h6 := h.below hB hlw
    cases rest with
    | nil =>
      have hj : j = -1 := hTr
      subst hj
      have hD : L = done := by rw [hLe]; simp
      have hE : done = [] → Value.tuple #[.int .u64 (Lib.minOf (L.map (dlOf S))), .bool (decide (L ≠ []))] = .tuple #[.int .u64 0, .bool false] := by
        intro e
        rw [hD, e]
        rfl
      rcases HO.out with ⟨hlen, ⟨rfl, hd0⟩ | ⟨g, cap, cur, rfl, hbg, hg, hnc, hcm, hcs, htk⟩⟩
      · have hd : done = [] := List.eq_nil_of_length_eq_zero hd0
        clear hlen hD hLe
        go_wp2
        refine bodyPost_ret (v := .tuple #[.int .u64 0, .bool false]) ?_ rfl ⟨by rw [hE hd], hB⟩
        simp [results, Tryz.results190, go_sem]
      · by_cases hd : done = []
        · have hd0 : done.length = 0 := by rw [hd]; rfl
          clear hlen hD hLe hg hcs htk hnc
          go_wp2
          refine bodyPost_ret (v := .tuple #[.int .u64 0, .bool false]) ?_ rfl ⟨by rw [hE hd], hB⟩
          simp [results, Tryz.results190, go_sem]
        · have hn0 : 0 < done.length := List.length_pos_iff.2 hd
          have hzl : (L.map (dlOf S)).length = done.length := by rw [hD]; simp
          have hmin := min_u64 g done.length cap (L.map (dlOf S)) wr hn0 (by omega) (by rw [← hD]; omega) (fun j hj => by
            have hx := HO.out.cells (g := g) rfl j (.int .u64 ((L.map (dlOf S)).getD j 0)) (by rw [hD] at hj ⊢; simp at hj; simp [hj])
            have he : (⟨g, 0, none⟩ : Addr).add j = ⟨g, j, none⟩ := by unfold Addr.add; by_cases h0 : j = 0 <;> simp [h0]
            rw [he] at hx
            exact hx)
          have hminE : Lib.minOf ((L.map (dlOf S)).take done.length) = Lib.minOf (L.map (dlOf S)) := by rw [← hzl, List.take_length]
          rw [hminE] at hmin
          have hnz : ((done.length : Int) == 0) = false := by simp; exact hd
          have hE2 : Value.tuple #[.int .u64 (Lib.minOf (L.map (dlOf S))), .bool (decide (L ≠ []))] = .tuple #[.int .u64 (Lib.minOf (L.map (dlOf S))), .bool true] := by
            have : L ≠ [] := by rw [hD]; exact hd
            simp [this]
          clear hlen hD hLe hg hcs htk hnc hminE hzl
          go_wp2_with (go_at_call 259; fail)
          refine hmin.mono ?_
          rintro e w7 ⟨rfl, rfl⟩
          go_wp2
          refine bodyPost_ret (v := .tuple #[.int .u64 (Lib.minOf (L.map (dlOf S))), .bool true]) ?_ rfl ⟨by rw [hE2], hB⟩
          simp [results, Tryz.results190, go_sem]
    | cons a rest =>
      obtain ⟨hj, hins, hTr'⟩ := hTr
      subst hj
      obtain ⟨har, t, hLv⟩ := hL a (by rw [hLe]; simp)
      clear h5 h0 hB5
      have hlr := h6.lt
      have hP : ∀ W, Below wr.heap.size wr W → PoolAt B.p S.p W := fun W hW => (h6.below hW hlr).pool
      have hS : ∀ W, Below wr.heap.size wr W → W.cell? ⟨B.b, 0, none⟩ = some (.pointer (some ⟨B.p.b, 0, none⟩)) := fun W hW => h6.blk.wx 0 rfl ⟨W, hW⟩
      go_upto_region 5 with fail
      go_cut [8, 9] from 16 to 44 (fun p ok wx => ∃ nb, p = .pointer (some ⟨nb, 0, none⟩) ∧ ok = .bool true ∧ Below wr.heap.size wr wx ∧ Blk wx nb #[.int .u64 t.d, .int .u64 t.p, .int .u64 t.o] 226)
      case first =>
        have c0 := hS _ (Below.refl _ _)
        go_region_held3 (fun W => W.cell? ⟨B.b, 0, none⟩ = some (.pointer (some ⟨B.p.b, 0, none⟩))) (exact hS _ (by first | exact (Below.refl _ wr).drew | exact ((Below.refl _ wr).drew).alloc (Nat.le_refl _) _ | exact hbl8 | exact hbl8.alloc hbl8.size _ | exact hbl7 | exact hbl7.alloc hbl7.size _ | exact (((hbl8.setCell (by first | exact Nat.le_refl _ | exact hbl7.size) _).setCell (by first | exact Nat.le_refl _ | exact hbl7.size) _).setCell (by first | exact Nat.le_refl _ | exact hbl7.size) _))) (first | (go_at_call 110; refine (handle_live (hP _ (by first | exact (Below.refl _ wr).drew | exact ((Below.refl _ wr).drew).alloc (Nat.le_refl _) _)) hLv).mono ?_; rintro e w7 ⟨rfl, hb7⟩; first | (have hNk : Blk w7 wr.heap.size #[.int .u64 0, .int .u64 0, .int .u64 0] 226 := (Blk.new wr.drew #[.int .u64 0, .int .u64 0, .int .u64 0] 226).below hb7 (Blk.new wr.drew #[.int .u64 0, .int .u64 0, .int .u64 0] 226).lt; have hbl7 : Below wr.heap.size wr w7 := (((Below.refl _ wr).drew).alloc (Nat.le_refl _) _).trans (hb7.mono (by simp))) | (have hbl7 : Below wr.heap.size wr w7 := ((Below.refl _ wr).drew).trans hb7)) | (go_at_call 112; first | (refine (get_live (hP _ hbl7) hLv).mono ?_; rintro e w8 ⟨rfl, hb8⟩; have hbl8 : Below wr.heap.size wr w8 := hbl7.trans (hb8.mono hbl7.size); try (have hNk8 : Blk w8 wr.heap.size #[.int .u64 0, .int .u64 0, .int .u64 0] 226 := hNk.below hb8 hNk.lt; have q0 := hNk8.cell 0 rfl; have q1 := hNk8.cell 1 rfl; have q2 := hNk8.cell 2 rfl; have f0 := hNk8.free 0; have f1 := hNk8.free 1; have f2 := hNk8.free 2)) | (refine (get_live (hP _ (hbl7.alloc hbl7.size _)) hLv).mono ?_; rintro e w8 ⟨rfl, hb8⟩; have hbl8 : Below wr.heap.size wr w8 := (hbl7.alloc hbl7.size _).trans (hb8.mono (by have := hbl7.size; simp; omega)); have hNk8 : Blk w8 w7.heap.size #[.int .u64 0, .int .u64 0, .int .u64 0] 226 := (Blk.new w7 #[.int .u64 0, .int .u64 0, .int .u64 0] 226).below hb8 (Blk.new w7 #[.int .u64 0, .int .u64 0, .int .u64 0] 226).lt; have q0 := hNk8.cell 0 rfl; have q1 := hNk8.cell 1 rfl; have q2 := hNk8.cell 2 rfl; have f0 := hNk8.free 0; have f1 := hNk8.free 1; have f2 := hNk8.free 2)))
        all_goals (go_wp2_with fail)
        · go_meet
          exact ⟨w8.heap.size, rfl, rfl, hbl8.alloc hbl8.size _, Blk.new _ _ _⟩
        · go_meet
          exact ⟨w7.heap.size, rfl, rfl, ((hbl8.setCell (p := ⟨w7.heap.size, 0, none⟩) hbl7.size _).setCell (p := ⟨w7.heap.size, 1, none⟩) hbl7.size _).setCell (p := ⟨w7.heap.size, 2, none⟩) hbl7.size _, ((hNk8.set 0 _).set 1 _).set 2 _⟩
        · go_meet
          exact ⟨wr.heap.size, rfl, rfl, ((hbl8.setCell (p := ⟨wr.heap.size, 0, none⟩) (Nat.le_refl _) _).setCell (p := ⟨wr.heap.size, 1, none⟩) (Nat.le_refl _) _).setCell (p := ⟨wr.heap.size, 2, none⟩) (Nat.le_refl _) _, ((hNk8.set 0 _).set 1 _).set 2 _⟩
      case rest =>
        obtain ⟨nb, rfl, rfl, hBc, hNb⟩ := hcut
        have hOc : wc.ownsRow w.heap.size 37 1 u6 done.length (done.map fun a => .int .u64 (dlOf S a)) := HO.out.kept (grown_of_below hBc none) (by cases hv : Value.ownBlock u6 <;> simp)
        have hBw : Below w.heap.size w wc := hB.trans (hBc.mono hB.size)
        have e0 : wc.cell? ⟨nb, 0, none⟩ = some (.int .u64 t.d) := hNb.cell 0 rfl
        clear hS hP h6 hlr hNb
        have hdn : done.length + 1 ≤ 64 := by rw [hLe] at hn; simp at hn; omega
        have hdl : dlOf S a = (t.d : Int) := by unfold dlOf; rw [hLv.ent]
        go_wp2_with (at_builtin; refine wpList_append_own _ rfl _ _ 56 rfl w.heap.size 37 i0 (.int .u64 0) 1 8 underlying56 hi hz0 hz1 hz2 rfl (by decide) _ _ _ rfl (hOc.alloc _) ⟨wc.heap.size, 0, none⟩ 1 1 [.int .u64 t.d] rfl rfl ?c1 ?c2 ?c3 ?c4 ?c5 ?_)
        case c1 =>
          intro j u hj
          match j, hj with
          | 0, hj => simp at hj; subst hj; simp [Addr.add]
        case c2 => intro u hu; simp at hu; subst hu; rfl
        case c3 => unfold maxLen; omega
        case c4 => omega
        case c5 => have := hBw.size; simp; omega
        · intro v' w1 hown' hgrow _
          have hlt := (hOc.alloc (Obj.cells #[.int .u64 t.d] 37)).lt
          have hB1 : Below w.heap.size w w1 := (hBw.alloc hBw.size _).grown hgrow (by have := hBw.size; simp; omega) (fun k e => (hlt k e).1)
          have h1 := h.below hB1 hlw
          have c1 : w1.cell? ⟨B.b, 1, none⟩ = some (.pointer (some ⟨B.c.b, 0, none⟩)) := h1.blk.cell 1 rfl
          have hnx := next_at h1.chain har hins
          have hown2 : w1.ownsRow w.heap.size 37 1 v' (done ++ [a]).length ((done ++ [a]).map fun a => .int .u64 (dlOf S a)) := by
            have e1 : (done ++ [a]).length = done.length + 1 := by simp
            have e2 : ((done ++ [a]).map fun a => Value.int .u64 (dlOf S a)) = (done.map fun a => Value.int .u64 (dlOf S a)) ++ [.int .u64 t.d] := by simp [hdl]
            rw [e1, e2]
            exact hown'
          have hH := Lib.hid hown2
          clear hown' hgrow hown2 hlt hOc HO hdl hdn
          go_wp2_with (go_at_call 246; fail)
          refine hnx.mono ?_
          rintro e w9 ⟨rfl, hb9⟩
          have hO9 := hH.out.kept (grown_of_below hb9 none) (by cases hv : Value.ownBlock v' <;> simp)
          go_wp2
          go_roundg rest.length
          case measure => simp
          case rel => exact ⟨done ++ [a], rest, _, by rw [hLe]; simp, hTr', rfl, rfl, hO9, hB1.trans (hb9.mono hB1.size)⟩
end
end Go.Proofs.YtkndlfdpmpdihaaGreatDoor
namespace Go.Proofs.YtkndlfdpmpdihaaGreatDoor
open Go.RowKit Go.Ev Go.Mv
set_option linter.unusedVariables false
set_option linter.unusedSimpArgs false
set_option maxRecDepth 100000
/-- The first of a list, or -1. -/
def fstI : List Nat → Int
  | [] => -1
  | a :: _ => a
def lstI : List Nat → Int
  | [] => -1
  | [a] => a
  | _ :: b :: l => lstI (b :: l)
theorem lstI_snoc (i : Nat) : ∀ l : List Nat, lstI (l ++ [i]) = i
  | [] => rfl
  | [_] => rfl
  | _ :: b :: l => lstI_snoc i (b :: l)
/-- A list's links. -/
def Links (link : Nat → Lk) (k : Int × Int) : Int → List Nat → Prop
  | _, [] => True
  | p, a :: l => link a = ⟨k.1, k.2, true, p, fstI l⟩ ∧ Links link k a l
theorem Links.congr {link link' : Nat → Lk} {k : Int × Int} : ∀ {l : List Nat} {p : Int}, Links link k p l → (∀ x ∈ l, link' x = link x) → Links link' k p l
  | [], _, _, _ => trivial
  | a :: l, p, h, hx => ⟨(hx a (by simp)).trans h.1, Links.congr h.2 fun x h => hx x (by simp [h])⟩
theorem Links.trail {link : Nat → Lk} {k : Int × Int} : ∀ {l : List Nat} {p : Int}, Links link k p l → Trail link (fstI l) l
  | [], _, _ => rfl
  | a :: l, p, h => ⟨rfl, by rw [h.1], by rw [h.1]; exact h.2.trail⟩
/-- One more at the end. -/
theorem Links.snoc {link : Nat → Lk} {k : Int × Int} {i z : Nat} : ∀ {l : List Nat} {p : Int}, Links link k p (l ++ [z]) → i ∉ l ++ [z] → (l ++ [z]).Nodup →
    Links (fset (fset link i ⟨k.1, k.2, true, z, -1⟩) z { link z with be := i }) k p (l ++ [z] ++ [i])
  | [], p, h, hi, hn => by
    simp only [List.nil_append, List.mem_singleton, List.cons_append] at *
    refine ⟨?_, ?_, trivial⟩
    · rw [fset_same, h.1]
      rfl
    · rw [fset_ne _ _ hi, fset_same]
      rfl
  | a :: l, p, h, hi, hn => by
    simp only [List.cons_append] at *
    have hni : i ≠ a := fun e => hi (by simp [e])
    have hz' : a ≠ z := by
      rintro rfl
      exact (List.nodup_cons.1 hn).1 (by simp)
    refine ⟨?_, ?_⟩
    · rw [fset_ne _ _ hz', fset_ne _ _ (Ne.symm hni), h.1]
      cases l <;> rfl
    · exact Links.snoc h.2 (fun e => hi (by simp only [List.mem_cons]; exact .inr e)) (List.nodup_cons.1 hn).2
/-- Chains are told by a list for each key. -/
structure ChainOk (C : CS) (ls : Int × Int → List Nat) (room : Nat) : Prop where
  head : ∀ k, C.head k = if ls k = [] then none else some ⟨fstI (ls k), lstI (ls k), ((ls k).length : Int)⟩
  link : ∀ k, Links C.link k (-1) (ls k)
  out : ∀ a, (∀ k, a ∉ ls k) → (C.link a).ins = false
  lt : ∀ k a, a ∈ ls k → a < room
  nodup : ∀ k, (ls k).Nodup
  disj : ∀ k k' a, a ∈ ls k → a ∈ ls k' → k = k'
section
variable {C : CS} {ls : Int × Int → List Nat} {room : Nat}
theorem nodup_le : ∀ {n : Nat} {l : List Nat}, l.Nodup → (∀ a ∈ l, a < n) → l.length ≤ n
  | 0, [], _, _ => Nat.le_refl _
  | 0, a :: l, _, h => absurd (h a (by simp)) (by omega)
  | n + 1, l, hn, h => by
    by_cases hm : n ∈ l
    · have h1 := nodup_le (n := n) (hn.erase n) (fun a ha => by
        have := (hn.mem_erase_iff).1 ha
        have := h a this.2
        omega)
      rw [List.length_erase_of_mem hm] at h1
      omega
    · have h1 := nodup_le (n := n) hn (fun a ha => by
        have h2 := h a ha
        have h3 : a ≠ n := fun e => hm (e ▸ ha)
        omega)
      omega
theorem ChainOk.le (h : ChainOk C ls room) (k : Int × Int) : (ls k).length ≤ room := nodup_le (h.nodup k) (h.lt k)
theorem firstOf_list (h : ChainOk C ls room) (k : Int × Int) : firstOf (C.head k) = fstI (ls k) := by
  rw [h.head k]
  by_cases e : ls k = []
  · rw [if_pos e, e]
    rfl
  · rw [if_neg e]
    rfl
theorem ChainOk.trail (h : ChainOk C ls room) (k : Int × Int) : Trail C.link (firstOf (C.head k)) (ls k) := by
  rw [firstOf_list h]
  exact (h.link k).trail
theorem lstI_mem : ∀ {l : List Nat}, l ≠ [] → ∃ z : Nat, lstI l = (z : Int) ∧ z ∈ l ∧ ∃ m, l = m ++ [z]
  | [], h => absurd rfl h
  | [a], _ => ⟨a, rfl, by simp, [], rfl⟩
  | a :: b :: l, _ => by
    obtain ⟨z, h1, h2, m, h3⟩ := lstI_mem (l := b :: l) (by simp)
    exact ⟨z, h1, by simp only [List.mem_cons] at *; exact .inr h2, a :: m, by rw [h3]; rfl⟩
/-- What Push asks. -/
theorem ChainOk.pushOk (h : ChainOk C ls room) (hr : room < 4294967296) {k : Int × Int} {i : Nat} (hi : i < room) (ho : ∀ k, i ∉ ls k) : PushOk C room k i := by
  refine ⟨hi, h.out i ho, fun x hx => ?_⟩
  rw [h.head k] at hx
  by_cases e : ls k = []
  · rw [if_pos e] at hx
    cases hx
  · rw [if_neg e] at hx
    cases hx
    obtain ⟨z, h1, h2, _⟩ := lstI_mem e
    exact ⟨z, (ls k).length, h1, h.lt k z h2, fun e => ho k (e ▸ h2), rfl, by have := h.le k; omega⟩
open Classical in
theorem ChainOk.push (h : ChainOk C ls room) {k : Int × Int} {i : Nat} (hi : i < room) (ho : ∀ k, i ∉ ls k) : ChainOk (C.push k i) (fset ls k (ls k ++ [i])) room := by
  have hls : ∀ k' a, a ∈ fset ls k (ls k ++ [i]) k' → (a ∈ ls k' ∨ (k' = k ∧ a = i)) := by
    intro k' a ha
    by_cases e : k' = k
    · subst e
      rw [fset_same] at ha
      simp only [List.mem_append, List.mem_singleton] at ha
      exact ha.elim .inl fun e => .inr ⟨rfl, e⟩
    · rw [fset_ne _ _ e] at ha
      exact .inl ha
  have hlt : ∀ k' a, a ∈ fset ls k (ls k ++ [i]) k' → a < room := fun k' a ha => (hls k' a ha).elim (h.lt k' a) fun e => e.2 ▸ hi
  have hnd : ∀ k', (fset ls k (ls k ++ [i]) k').Nodup := by
    intro k'
    by_cases e : k' = k
    · subst e
      rw [fset_same]
      refine List.nodup_append.2 ⟨h.nodup k', by simp, ?_⟩
      intro a ha b hb
      simp only [List.mem_singleton] at hb
      rintro rfl
      exact ho k' (hb ▸ ha)
    · rw [fset_ne _ _ e]
      exact h.nodup k'
  have hdj : ∀ k1 k2 a, a ∈ fset ls k (ls k ++ [i]) k1 → a ∈ fset ls k (ls k ++ [i]) k2 → k1 = k2 := by
    intro k1 k2 a h1 h2
    rcases hls _ _ h1 with h1 | ⟨h1, e1⟩ <;> rcases hls _ _ h2 with h2 | ⟨h2, e2⟩
    · exact h.disj _ _ _ h1 h2
    · exact absurd (e2 ▸ h1) (ho k1)
    · exact absurd (e1 ▸ h2) (ho k2)
    · rw [h1, h2]
  by_cases e : ls k = []
  · have hh : C.head k = none := by rw [h.head k, if_pos e]
    have hC : C.push k i = ⟨fset C.head k (some ⟨i, i, 1⟩), fset C.link i ⟨k.1, k.2, true, -1, -1⟩⟩ := by unfold CS.push; rw [hh]
    rw [hC]
    refine ⟨fun k' => ?_, fun k' => ?_, fun a ha => ?_, hlt, hnd, hdj⟩
    · by_cases ek : k' = k
      · subst ek
        simp only [fset_same]
        rw [e]
        rfl
      · simp only [fset_ne _ _ ek]
        exact h.head k'
    · by_cases ek : k' = k
      · subst ek
        rw [fset_same, e]
        exact ⟨fset_same _ _ _, trivial⟩
      · rw [fset_ne _ _ ek]
        exact (h.link k').congr fun x hx => fset_ne _ _ (fun e => ho k' (e ▸ hx))
    · have hai : a ≠ i := by
        rintro rfl
        exact ha k (by rw [fset_same]; simp)
      show (fset C.link i _ a).ins = false
      rw [fset_ne _ _ hai]
      refine h.out a fun k' hk => ?_
      by_cases ek : k' = k
      · subst ek
        rw [e] at hk
        cases hk
      · exact ha k' (by rw [fset_ne _ _ ek]; exact hk)
  · obtain ⟨z, h1, h2, m, h3⟩ := lstI_mem e
    have hh : C.head k = some ⟨fstI (ls k), lstI (ls k), ((ls k).length : Int)⟩ := by rw [h.head k, if_neg e]
    have hC : C.push k i = ⟨fset C.head k (some ⟨fstI (ls k), i, ((ls k).length : Int) + 1⟩), fset (fset C.link i ⟨k.1, k.2, true, z, -1⟩) z { C.link z with be := i }⟩ := by
      unfold CS.push
      rw [hh]
      simp only [h1, Int.toNat_natCast]
    rw [hC]
    refine ⟨fun k' => ?_, fun k' => ?_, fun a ha => ?_, hlt, hnd, hdj⟩
    · by_cases ek : k' = k
      · subst ek
        simp only [fset_same]
        rw [if_neg (by simp), lstI_snoc]
        congr 2
        · cases hc : ls k' with
          | nil => exact absurd hc e
          | cons a l => rfl
        · simp
      · simp only [fset_ne _ _ ek]
        exact h.head k'
    · by_cases ek : k' = k
      · subst ek
        rw [fset_same]
        have hl := h.link k'
        have hn := h.nodup k'
        have hi' := ho k'
        rw [h3] at hl hn hi' ⊢
        exact hl.snoc hi' hn
      · rw [fset_ne _ _ ek]
        refine (h.link k').congr fun x hx => ?_
        have x1 : x ≠ z := fun e' => ek (h.disj k' k x hx (e' ▸ h2))
        have x2 : x ≠ i := fun e' => ho k' (e' ▸ hx)
        show fset (fset C.link i _) z _ x = C.link x
        rw [fset_ne _ _ x1, fset_ne _ _ x2]
    · have hai : a ≠ i := by
        rintro rfl
        exact ha k (by rw [fset_same]; simp)
      have haz : a ≠ z := by
        rintro rfl
        exact ha k (by rw [fset_same]; simp [h2])
      show (fset (fset C.link i _) z _ a).ins = false
      rw [fset_ne _ _ haz, fset_ne _ _ hai]
      refine h.out a fun k' hk => ?_
      by_cases ek : k' = k
      · subst ek
        exact ha k' (by rw [fset_same]; simp [hk])
      · exact ha k' (by rw [fset_ne _ _ ek]; exact hk)
theorem ChainOk.at_ (h : ChainOk C ls room) {k : Int × Int} {i : Nat} {l : List Nat} (hk : ls k = i :: l) : C.link i = ⟨k.1, k.2, true, -1, fstI l⟩ := by
  have := h.link k
  rw [hk] at this
  exact this.1
/-- What Remove asks, of the first of a chain. -/
theorem ChainOk.popOk (h : ChainOk C ls room) (hr : room < 4294967296) {k : Int × Int} {i : Nat} {l : List Nat} (hk : ls k = i :: l) : PopOk C room i := by
  have hi := h.at_ hk
  have hle := h.le k
  rw [hk] at hle
  refine ⟨h.lt k i (by rw [hk]; simp), by rw [hi], by rw [hi], ?_⟩
  rw [hi]
  simp only
  rw [show (k.1, k.2) = k from rfl, h.head k, if_neg (by rw [hk]; simp)]
  refine ⟨_, rfl, ?_⟩
  cases l with
  | nil => exact .inl ⟨rfl, by rw [hk]; rfl⟩
  | cons b l =>
    refine .inr ⟨b, (i :: b :: l).length, rfl, h.lt k b (by rw [hk]; simp), ?_, by rw [hk], by simp, by omega⟩
    rintro rfl
    have := h.nodup k
    rw [hk] at this
    exact (List.nodup_cons.1 this).1 (by simp)
theorem Links.popped {link : Nat → Lk} {k : Int × Int} {i : Nat} {l : List Nat} {p : Int} (h : Links link k p (i :: l)) (hn : (i :: l).Nodup) {b : Nat} {l' : List Nat} (hl : l = b :: l') : Links (fset (fset link b { link b with ah := -1 }) i lk0) k (-1) l := by
    subst hl
    have h1 := (List.nodup_cons.1 hn).1
    have h2 := (List.nodup_cons.1 hn).2
    have hib : b ≠ i := fun e => h1 (by simp [e])
    refine ⟨?_, ?_⟩
    · rw [fset_ne _ _ hib, fset_same, h.2.1]
    · refine h.2.2.congr fun x hx => ?_
      have x1 : x ≠ i := fun e => h1 (by simp only [List.mem_cons]; exact .inr (e ▸ hx))
      have x2 : x ≠ b := fun e => (List.nodup_cons.1 h2).1 (e ▸ hx)
      rw [fset_ne _ _ x1, fset_ne _ _ x2]
theorem lstI_tail {i b : Nat} {l : List Nat} : lstI (i :: b :: l) = lstI (b :: l) := rfl
theorem ChainOk.pop (h : ChainOk C ls room) {k : Int × Int} {i : Nat} {l : List Nat} (hk : ls k = i :: l) : ChainOk (C.pop i) (fset ls k l) room := by
  have hi := h.at_ hk
  have hn := h.nodup k
  rw [hk] at hn
  have hsub : ∀ k' a, a ∈ fset ls k l k' → a ∈ ls k' := by
    intro k' a ha
    by_cases e : k' = k
    · subst e
      rw [fset_same] at ha
      rw [hk]
      simp [ha]
    · rw [fset_ne _ _ e] at ha
      exact ha
  have hik : i ∈ ls k := by rw [hk]; simp
  have hin : ∀ k' a, a ∈ fset ls k l k' → a ≠ i := by
    rintro k' a ha rfl
    have := h.disj k' k a (hsub k' a ha) hik
    subst this
    rw [fset_same] at ha
    exact (List.nodup_cons.1 hn).1 ha
  have hlt : ∀ k' a, a ∈ fset ls k l k' → a < room := fun k' a ha => h.lt k' a (hsub k' a ha)
  have hnd : ∀ k', (fset ls k l k').Nodup := by
    intro k'
    by_cases e : k' = k
    · subst e
      rw [fset_same]
      exact (List.nodup_cons.1 hn).2
    · rw [fset_ne _ _ e]
      exact h.nodup k'
  have hdj : ∀ k1 k2 a, a ∈ fset ls k l k1 → a ∈ fset ls k l k2 → k1 = k2 := fun k1 k2 a h1 h2 => h.disj k1 k2 a (hsub _ _ h1) (hsub _ _ h2)
  have hkk : ((C.link i).l, (C.link i).s) = k := by rw [hi]
  have hout : ∀ a, (∀ k', a ∉ fset ls k l k') → a ≠ i → (C.link a).ins = false := by
    intro a ha hai
    refine h.out a fun k' hk' => ?_
    by_cases e : k' = k
    · subst e
      rw [hk] at hk'
      simp only [List.mem_cons] at hk'
      exact hk'.elim hai fun e => ha k' (by rw [fset_same]; exact e)
    · exact ha k' (by rw [fset_ne _ _ e]; exact hk')
  cases l with
  | nil =>
    have hC : C.pop i = ⟨fset C.head k none, fset C.link i lk0⟩ := by
      unfold CS.pop
      simp only [hkk]
      rw [if_pos (by rw [hi]; rfl)]
    rw [hC]
    refine ⟨fun k' => ?_, fun k' => ?_, fun a ha => ?_, hlt, hnd, hdj⟩
    · by_cases e : k' = k
      · subst e
        simp only [fset_same]
        rfl
      · simp only [fset_ne _ _ e]
        exact h.head k'
    · by_cases e : k' = k
      · subst e
        rw [fset_same]
        trivial
      · rw [fset_ne _ _ e]
        refine (h.link k').congr fun x hx => fset_ne _ _ (hin k' x (by rw [fset_ne _ _ e]; exact hx))
    · show (fset C.link i lk0 a).ins = false
      by_cases hai : a = i
      · rw [hai, fset_same]
        rfl
      · rw [fset_ne _ _ hai]
        exact hout a ha hai
  | cons b l =>
    have hbe : (C.link i).be = (b : Int) := by rw [hi]; rfl
    have hC : C.pop i = ⟨fset C.head k ((C.head k).map fun x => ⟨b, x.la, x.n - 1⟩), fset (fset C.link b { C.link b with ah := -1 }) i lk0⟩ := by
      unfold CS.pop
      simp only [hkk, hbe, Int.toNat_natCast]
      rw [if_neg (by omega)]
    rw [hC]
    have hbl : b ∈ fset ls k (b :: l) k := by rw [fset_same]; simp
    refine ⟨fun k' => ?_, fun k' => ?_, fun a ha => ?_, hlt, hnd, hdj⟩
    · by_cases e : k' = k
      · subst e
        simp only [fset_same]
        rw [h.head k', if_neg (by rw [hk]; simp), hk, lstI_tail, if_neg (by simp)]
        simp only [Option.map_some, fstI]
        congr 2
        simp
      · simp only [fset_ne _ _ e]
        exact h.head k'
    · by_cases e : k' = k
      · subst e
        rw [fset_same]
        have hl := h.link k'
        rw [hk] at hl
        exact hl.popped hn rfl
      · rw [fset_ne _ _ e]
        refine (h.link k').congr fun x hx => ?_
        have x1 : x ≠ i := hin k' x (by rw [fset_ne _ _ e]; exact hx)
        have x2 : x ≠ b := fun e' => e (hdj k' k b (by rw [fset_ne _ _ e]; exact e' ▸ hx) hbl)
        show fset (fset C.link b _) i lk0 x = C.link x
        rw [fset_ne _ _ x1, fset_ne _ _ x2]
    · show (fset (fset C.link b _) i lk0 a).ins = false
      by_cases hai : a = i
      · rw [hai, fset_same]
        rfl
      · have hab : a ≠ b := fun e => ha k (e ▸ hbl)
        rw [fset_ne _ _ hai, fset_ne _ _ hab]
        exact hout a ha hai
end
end Go.Proofs.YtkndlfdpmpdihaaGreatDoor
namespace Go.Proofs.YtkndlfdpmpdihaaGreatDoor
open Go.RowKit Go.Ev Go.Mv
set_option linter.unusedVariables false
set_option linter.unusedSimpArgs false
set_option maxRecDepth 100000
/-- What First tells, behind the last bit too. -/
def nxtN (n m : Nat) : Int := if m < 64 then firstN n m else -1
theorem first_end {n m : Nat} (hm : m = 64) (w : World) : Calls Tryz.prog 299 #[.int .u64 n, .int .i64 m] w fun e w' => e = .returned (.int .i64 (-1)) ∧ Below w.heap.size w w' := by
  subst hm
  go_enter Tryz.func299, Tryz.ntmps299
  have hBa : Below w.heap.size w ((w.alloc (.cells #[.int .u64 n] 37)).alloc (.cells #[.int .i64 64] 3)) := ((Below.refl _ w).alloc (Nat.le_refl _) _).alloc (by simp) _
  have h2 : Blk ((w.alloc (.cells #[.int .u64 n] 37)).alloc (.cells #[.int .i64 64] 3)) (w.heap.size + 1) #[.int .i64 64] 3 := by
    have := Blk.new (w.alloc (.cells #[.int .u64 n] 37)) #[.int .i64 (64 : Int)] 3
    simpa using this
  have c2 : ((w.alloc (.cells #[.int .u64 n] 37)).alloc (.cells #[.int .i64 64] 3)).cell? ⟨w.heap.size + 1, 0, none⟩ = some (.int .i64 64) := h2.cell 0 rfl
  go_wp2
  refine bodyPost_ret (v := .int .i64 (-1)) ?_ rfl ⟨rfl, hBa⟩
  simp [results, Tryz.results299, go_sem]
theorem nxt_at {n m : Nat} (hn : n < 18446744073709551616) (hm : m ≤ 64) {w : World} (hT : TabW w) : Calls Tryz.prog 299 #[.int .u64 n, .int .i64 m] w fun e w' => e = .returned (.int .i64 (nxtN n m)) ∧ Below w.heap.size w w' := by
  unfold nxtN
  by_cases h : m < 64
  · rw [if_pos h]
    exact first_at hn h hT
  · rw [if_neg h]
    exact first_end (by omega) w
theorem onext_at {M : Nat → Nat} (hM : ∀ i, M i < 18446744073709551616) {l m : Nat} (hl : l < 8) (hm : m ≤ 64) {w : World} (hT : TabW w) : Calls Tryz.prog 302 #[.agg (arr8 M), .int .i64 l, .int .i64 m] w fun e w' => e = .returned (.int .i64 (nxtN (M l) m)) ∧ Below w.heap.size w w' := by
  have hb : ∀ w, Calls Tryz.prog 247 #[.int .i64 l, .int .i64 0] w fun e w' => e = .returned (.int .u64 1) ∧ w' = w := fun w => bit_at l 0 hl (by omega) w
  have hBa : Below w.heap.size w (w.alloc (Obj.cells #[.int .u64 (M 0), .int .u64 (M 1), .int .u64 (M 2), .int .u64 (M 3), .int .u64 (M 4), .int .u64 (M 5), .int .u64 (M 6), .int .u64 (M 7)] 213)) := (Below.refl _ w).alloc (Nat.le_refl _) _
  have hX : Blk (w.alloc (Obj.cells #[.int .u64 (M 0), .int .u64 (M 1), .int .u64 (M 2), .int .u64 (M 3), .int .u64 (M 4), .int .u64 (M 5), .int .u64 (M 6), .int .u64 (M 7)] 213)) w.heap.size (arr8 M) 213 := Blk.new w (arr8 M) 213
  have cl : (w.alloc (Obj.cells #[.int .u64 (M 0), .int .u64 (M 1), .int .u64 (M 2), .int .u64 (M 3), .int .u64 (M 4), .int .u64 (M 5), .int .u64 (M 6), .int .u64 (M 7)] 213)).cell? ⟨w.heap.size, l, none⟩ = some (.int .u64 (M l)) := hX.cell l (arr8_at M l hl)
  have hx := nxt_at (hM l) hm (w := w.alloc (Obj.cells #[.int .u64 (M 0), .int .u64 (M 1), .int .u64 (M 2), .int .u64 (M 3), .int .u64 (M 4), .int .u64 (M 5), .int .u64 (M 6), .int .u64 (M 7)] 213)) (hT.below (hBa.mono (Nat.le_refl _)))
  have hsz := hBa.size
  unfold arr8
  clear hX hT hM
  go_enter Tryz.func302, Tryz.ntmps302
  go_wp2_with (go_at_call 247; fail)
  refine (hb _).mono ?_
  rintro e w1 ⟨rfl, rfl⟩
  go_wp2_with (go_at_call 299; fail)
  refine hx.mono ?_
  rintro e w2 ⟨rfl, hb2⟩
  go_wp2
  refine bodyPost_ret (v := .int .i64 (nxtN (M l) m)) ?_ rfl ⟨rfl, hBa.trans (hb2.mono hsz)⟩
  simp [results, Tryz.results302, go_sem]
end Go.Proofs.YtkndlfdpmpdihaaGreatDoor
namespace Go.Proofs.YtkndlfdpmpdihaaGreatDoor
open Go.RowKit Go.Ev Go.Mv
set_option linter.unusedVariables false
set_option linter.unusedSimpArgs false
set_option maxRecDepth 100000
attribute [local go_sem] Oper.semAt_some
/-- The bits of a word from one of them on. -/
def Bits (n : Nat) : Int → List Nat → Prop
  | i, [] => i = -1
  | i, a :: l => i = (a : Int) ∧ a < 64 ∧ Bits n (nxtN n (a + 1)) l
theorem nxtN_ge (n m : Nat) (hn : n < 18446744073709551616) (hm : m ≤ 64) : nxtN n m = -1 ∨ ∃ a : Nat, nxtN n m = a ∧ m ≤ a ∧ a < 64 := by
  unfold nxtN
  by_cases h : m < 64
  · rw [if_pos h]
    unfold firstN
    have e : 2 ^ 64 - 1 - (2 ^ m - 1) = 2 ^ m * (2 ^ (64 - m) - 1) := by
      have e1 : 2 ^ 64 = 2 ^ m * 2 ^ (64 - m) := by rw [← Nat.pow_add]; congr 1; omega
      have e2 : 1 ≤ 2 ^ m := Nat.one_le_two_pow
      rw [Nat.mul_sub, ← e1]
      omega
    rw [e]
    generalize hr : n &&& 2 ^ m * (2 ^ (64 - m) - 1) = r
    by_cases hz : r = 0
    · exact .inl (if_pos hz)
    · refine .inr ⟨Lib.ctz 64 r, if_neg hz, ?_, ?_⟩
      · have hlt : r < 2 ^ 64 := by rw [← hr]; exact Nat.lt_of_le_of_lt Nat.and_le_left (by omega)
        obtain ⟨k, hk, hc⟩ := Lib.ctzFrom_spec 64 r (by omega) hlt
        have hcz : Lib.ctz 64 r = Lib.ctzFrom 64 r := by unfold Lib.ctz; rw [if_neg hz]
        rw [hcz]
        generalize Lib.ctzFrom 64 r = c at *
        have hb : r.testBit c = true := by
          rw [hk, Nat.testBit_two_pow_mul]
          simp
        rw [← hr, Nat.testBit_and, Nat.testBit_two_pow_mul] at hb
        simp at hb
        omega
      · have hlt : r < 2 ^ 64 := by rw [← hr]; exact Nat.lt_of_le_of_lt Nat.and_le_left (by omega)
        exact (Lib.lowest_bit 64 r hz hlt).2
  · exact .inl (if_neg h)
theorem bits_any (n : Nat) (hn : n < 18446744073709551616) (m : Nat) (hm : m ≤ 64) : ∃ l, Bits n (nxtN n m) l := by
  induction h : 64 - m using Nat.strongRecOn generalizing m with
  | ind k ih =>
    rcases nxtN_ge n m hn hm with e | ⟨a, e, h1, h2⟩
    · exact ⟨[], e⟩
    · obtain ⟨l, hl⟩ := ih (64 - (a + 1)) (by omega) (a + 1) (by omega) rfl
      exact ⟨a :: l, e, h2, hl⟩
end Go.Proofs.YtkndlfdpmpdihaaGreatDoor
namespace Go.Proofs.YtkndlfdpmpdihaaGreatDoor
open Go.RowKit Go.Ev Go.Mv
set_option linter.unusedVariables false
set_option linter.unusedSimpArgs false
set_option maxRecDepth 100000
attribute [local go_sem] Oper.semAt_some
/-- What has come when k levels are over. -/
def upToL (L : Nat → List Nat) (k : Nat) : List (Nat × Nat) := (List.range k).flatMap fun l => (L l).map fun s => (l, s)
theorem upToL_succ (L : Nat → List Nat) (k : Nat) : upToL L (k + 1) = upToL L k ++ (L k).map fun s => (k, s) := by simp [upToL, List.range_succ]
theorem upToL_len (L : Nat → List Nat) {k : Nat} : ∀ {n : Nat}, k ≤ n → (upToL L k).length ≤ (upToL L n).length := by
  intro n h
  induction h with
  | refl => exact Nat.le_refl _
  | step h ih => rw [upToL_succ]; simp; omega
theorem upToL_pre (L : Nat → List Nat) {k : Nat} : ∀ {n : Nat}, k ≤ n → upToL L k <+: upToL L n := by
  intro n h
  induction h with
  | refl => exact List.prefix_refl _
  | step h ih => rw [upToL_succ]; exact ih.trans (List.prefix_append _ _)
theorem grown_of {w w' : World} (h : Below w.heap.size w w') (row : Option Nat) : w.grownBy w' row := ⟨h.os, h.tape, h.output, h.size, fun k hk _ => h.block k hk⟩
set_option maxHeartbeats 4000000 in
theorem each1_in (n : Nat) (hn : 1 ≤ n) {M : Nat → Nat} (hM : ∀ i, M i < 18446744073709551616) {L : Nat → List Nat} (hL : ∀ l, l < 8 → Bits (M l) (nxtN (M l) 0) (L l)) (l bx n₀ : Nat) (hbx : bx < n₀) (h2 : 2 < n₀) (J Jx : List (Nat × Nat) → World → Prop)
    (W : World) (hJ : AbidesFrom W.heap.size J) (hnW : n₀ ≤ W.heap.size)
    (hY : ∀ pre x W, J pre W → pre.length < (upToL L 8).length → YieldAt Fence.wide (n - 1) Tryz.prog l #[.agg #[.int .i64 (x.1 : Int), .int .i64 (x.2 : Int)]] W fun e W' =>
      (e = .returned (.bool true) ∧ J (pre ++ [x]) W' ∧ Below n₀ W W') ∨ (e = .returned (.bool false) ∧ Jx (pre ++ [x]) W'))
    (hX : Blk W bx (arr8 M) 213) (hT : TabW W) (h0 : J [] W) :
    CallsIn Fence.wide n Tryz.prog 301 #[.func (.yield l) #[] #[], .pointer (some ⟨bx, 0, none⟩)] W fun e W' => (∃ v, e = .returned v) ∧
      ((∃ ys, ys = upToL L 8 ∧ J ys W') ∨ (∃ pre, pre <+: upToL L 8 ∧ Jx pre W')) := by
  refine callsIn_of_wp Tryz.func301 rfl trivial ?_ rfl
  simp only [Tryz.ntmps301, List.size_toArray, List.length_cons, List.length_nil, Nat.reduceAdd, Nat.reduceSub, Array.replicate_succ, Array.replicate_zero, List.push_toArray, List.append_toArray, List.nil_append, List.cons_append]
  gi_wp2
  gi_loopg [5] 8 (fun g i wr => ∃ k : Nat, k ≤ 8 ∧ g = 8 - k ∧ i = .int .i64 k ∧ J (upToL L k) wr ∧ Below n₀ W wr ∧ W.heap.size ≤ wr.heap.size)
  case atStart => exact ⟨0, by omega, rfl, rfl, h0, Below.refl _ _, Nat.le_refl _⟩
  case round =>
    obtain ⟨k, hk, hg, rfl, hJs, hB, hsz⟩ := hrel
    by_cases hlt : k < 8
    · have hXr := hX.below hB hbx
      have hTr : TabW wr := hT.keep (hB.block _ h2)
      have c0 : wr.cell? ⟨bx, 0, none⟩ = some (.int .u64 (M 0)) := hXr.cell 0 rfl
      have c1 : wr.cell? ⟨bx, 1, none⟩ = some (.int .u64 (M 1)) := hXr.cell 1 rfl
      have c2 : wr.cell? ⟨bx, 2, none⟩ = some (.int .u64 (M 2)) := hXr.cell 2 rfl
      have c3 : wr.cell? ⟨bx, 3, none⟩ = some (.int .u64 (M 3)) := hXr.cell 3 rfl
      have c4 : wr.cell? ⟨bx, 4, none⟩ = some (.int .u64 (M 4)) := hXr.cell 4 rfl
      have c5 : wr.cell? ⟨bx, 5, none⟩ = some (.int .u64 (M 5)) := hXr.cell 5 rfl
      have c6 : wr.cell? ⟨bx, 6, none⟩ = some (.int .u64 (M 6)) := hXr.cell 6 rfl
      have c7 : wr.cell? ⟨bx, 7, none⟩ = some (.int .u64 (M 7)) := hXr.cell 7 rfl
      have hnx := onext_at hM hlt (Nat.zero_le 64) hTr
      rw [show ((0 : Nat) : Int) = 0 from rfl] at hnx
      unfold arr8 at hnx
      gi_wp2_with (refine ⟨trivial, ?_⟩; gi_at_call 302; refine (callsIn_wide.2 hnx).mono ?_; rintro e w1 ⟨rfl, hb1⟩)
      have hJ1 := hJ _ _ _ none hJs (grown_of hb1 none) (fun r e => by cases e)
      have hB1 : Below n₀ W w1 := hB.trans (hb1.mono (Nat.le_trans hnW hsz))
      have hs1 : W.heap.size ≤ w1.heap.size := Nat.le_trans hsz hb1.size
      clear c0 c1 c2 c3 c4 c5 c6 c7 hnx hXr hTr hJs
      gi_loopg [4] (L k).length (fun g s wr => ∃ done rest j, L k = done ++ rest ∧ Bits (M k) j rest ∧ g = rest.length ∧ s = .int .i64 j ∧ J (upToL L k ++ done.map fun s => (k, s)) wr ∧ Below n₀ W wr ∧ W.heap.size ≤ wr.heap.size)
      case atStart => exact ⟨[], L k, _, rfl, hL k hlt, rfl, rfl, by simpa using hJ1, hB1, hs1⟩
      case round =>
        obtain ⟨done, rest, j, hLe, hbt, hg2, rfl, hJq, hBq, hsq⟩ := hrel
        cases rest with
        | nil =>
          have hj : j = -1 := hbt
          subst hj
          have hD : L k = done := by rw [hLe]; simp
          rw [← hD, ← upToL_succ] at hJq
          gi_wp2
          gi_roundg (8 - (k + 1))
          case measure => omega
          case rel => exact ⟨k + 1, by omega, rfl, by simp, hJq, hBq, hsq⟩
        | cons a rest =>
          obtain ⟨hj, ha, hbt'⟩ := hbt
          subst hj
          obtain ⟨fn, tmps, assign, body, hy, hR⟩ := hY _ (k, a) _ hJq (by have := upToL_len L (show k + 1 ≤ 8 by omega); rw [upToL_succ, hLe] at this; simp at this; simp; omega)
          dsimp only at hy
          gi_wp2
          refine hR.mono ?_
          rintro e W3 (⟨rfl, hJ3, hk3⟩ | ⟨rfl, hJx3⟩)
          · have hB3 : Below n₀ W W3 := hBq.trans hk3
            have hs3 : W.heap.size ≤ W3.heap.size := Nat.le_trans hsq hk3.size
            have hXq := hX.below hB3 hbx
            have hTq : TabW W3 := hT.keep (hB3.block _ h2)
            have c0 : W3.cell? ⟨bx, 0, none⟩ = some (.int .u64 (M 0)) := hXq.cell 0 rfl
            have c1 : W3.cell? ⟨bx, 1, none⟩ = some (.int .u64 (M 1)) := hXq.cell 1 rfl
            have c2 : W3.cell? ⟨bx, 2, none⟩ = some (.int .u64 (M 2)) := hXq.cell 2 rfl
            have c3 : W3.cell? ⟨bx, 3, none⟩ = some (.int .u64 (M 3)) := hXq.cell 3 rfl
            have c4 : W3.cell? ⟨bx, 4, none⟩ = some (.int .u64 (M 4)) := hXq.cell 4 rfl
            have c5 : W3.cell? ⟨bx, 5, none⟩ = some (.int .u64 (M 5)) := hXq.cell 5 rfl
            have c6 : W3.cell? ⟨bx, 6, none⟩ = some (.int .u64 (M 6)) := hXq.cell 6 rfl
            have c7 : W3.cell? ⟨bx, 7, none⟩ = some (.int .u64 (M 7)) := hXq.cell 7 rfl
            have hnx := onext_at hM hlt (show a + 1 ≤ 64 by omega) hTq
            rw [show ((a + 1 : Nat) : Int) = (a : Int) + 1 by omega] at hnx
            unfold arr8 at hnx
            gi_wp2_with (refine ⟨trivial, ?_⟩; gi_at_call 302; refine (callsIn_wide.2 hnx).mono ?_; rintro e w4 ⟨rfl, hb4⟩)
            have hJ4 := hJ _ _ _ none hJ3 (grown_of hb4 none) (fun r e => by cases e)
            gi_roundg rest.length
            case measure => simp only [List.length_cons] at hg2; omega
            case rel => exact ⟨done ++ [a], rest, _, by rw [hLe]; simp, hbt', rfl, rfl, by simpa using hJ4, hB3.trans (hb4.mono (Nat.le_trans hnW hs3)), Nat.le_trans hs3 hb4.size⟩
          · gi_wp2
            refine bodyPost_ret (results_none rfl _ _ _) rfl ?_
            refine ⟨⟨_, rfl⟩, .inr ⟨_, ?_, hJx3⟩⟩
            refine List.IsPrefix.trans ?_ (upToL_pre L (show k + 1 ≤ 8 by omega))
            rw [upToL_succ, hLe]
            exact ⟨rest.map fun s => (k, s), by simp⟩
    · obtain rfl : k = 8 := by omega
      gi_wp2
      go_end0
      exact ⟨⟨_, rfl⟩, .inl ⟨_, rfl, hJs⟩⟩
end Go.Proofs.YtkndlfdpmpdihaaGreatDoor
namespace Go.Proofs.YtkndlfdpmpdihaaGreatDoor
open Go.RowKit Go.Ev Go.Mv
set_option linter.unusedVariables false
set_option linter.unusedSimpArgs false
set_option maxRecDepth 100000
attribute [local go_sem] Oper.semAt_some
theorem Blk.kept {A B : World} {b : Nat} {vs : Array Value} {T : TypeId} {row : Option Nat} (h : Blk A b vs T) (hg : A.grownBy B row) (hr : ∀ r, row = some r → ∃ o : Obj, A.heap[r]? = some o ∧ o.isCells = false) : Blk B b vs T := by
  refine (hg.block b h.lt (fun e => ?_)).trans h
  obtain ⟨o, ho, hc⟩ := hr b e.symm
  unfold Blk at h
  rw [h] at ho
  cases ho
  cases hc
theorem each_at (M : Nat → Nat) (n : Nat) (w : World) : CallsIn Fence.wide n Tryz.prog 239 #[.agg (arr8 M)] w fun e w' => e = .returned (.func (.func 301) #[] #[.pointer (some ⟨w.heap.size, 0, none⟩)]) ∧ w' = w.alloc (.cells (arr8 M) 213) := by
  unfold arr8
  refine callsIn_of_wp Tryz.func239 rfl trivial ?_ rfl
  simp only [Tryz.ntmps239, List.size_toArray, List.length_cons, List.length_nil, Nat.reduceAdd, Nat.reduceSub, Array.replicate_succ, Array.replicate_zero, List.push_toArray, List.append_toArray, List.nil_append, List.cons_append]
  gi_wp2
  go_ret
  exact ⟨rfl, rfl⟩
theorem each_stops (n : Nat) (hn : 1 ≤ n) {M : Nat → Nat} (hM : ∀ i, M i < 18446744073709551616) {L : Nat → List Nat} (hL : ∀ l, l < 8 → Bits (M l) (nxtN (M l) 0) (L l)) (bx n₀ : Nat) (w : World) (hbx : bx < n₀) (h2 : 2 < n₀) (hnw : n₀ ≤ w.heap.size)
    (hX : Blk w bx (arr8 M) 213) (hT : TabW w) :
    SeqStopsK Fence.wide n Tryz.prog 301 #[.pointer (some ⟨bx, 0, none⟩)] (fun x : Nat × Nat => #[Value.agg #[.int .i64 (x.1 : Int), .int .i64 (x.2 : Int)]]) (Below n₀) (fun ys => ys = upToL L 8) (fun pre => pre <+: upToL L 8) (upToL L 8).length w := fun l J Jx W hW hJ _ hY h0 =>
  each1_in n hn hM hL l bx n₀ hbx h2 J Jx W hJ (Nat.le_trans hnw hW.size) hY (hX.below hW (by omega)) (hT.below hW) h0
def lowK (L : Nat → List Nat) : Int × Int := match upToL L 8 with
  | [] => (-1, -1)
  | x :: _ => (x.1, x.2)
theorem under213 : Tryz.prog.underlying 213 = some (.array 8 37) := by kernel_rfl
theorem eq_arr8 (x0 x1 x2 x3 x4 x5 x6 x7 y0 y1 y2 y3 y4 y5 y6 y7 : Int) (w : World) :
    (Op.equalIn 10000 213 (.agg #[.int .u64 x0, .int .u64 x1, .int .u64 x2, .int .u64 x3, .int .u64 x4, .int .u64 x5, .int .u64 x6, .int .u64 x7]) (.agg #[.int .u64 y0, .int .u64 y1, .int .u64 y2, .int .u64 y3, .int .u64 y4, .int .u64 y5, .int .u64 y6, .int .u64 y7])).run Tryz.prog w = .ok ([x0, x1, x2, x3, x4, x5, x6, x7] == [y0, y1, y2, y3, y4, y5, y6, y7]) w :=
  run_equalIn_ints w .u64 9998 213 37 8 under213 under37 size37 [x0, x1, x2, x3, x4, x5, x6, x7] [y0, y1, y2, y3, y4, y5, y6, y7] rfl rfl
end Go.Proofs.YtkndlfdpmpdihaaGreatDoor
