/- A range over a map whatever its keys, as it stands: the steps of the walk. A range over a map whatever its keys: what is left behind a step; a list that is sorted by its numbers is one. DERIVED: THE SHELF's CONTRACTS AT THIS DUMP, IN PLAIN WORDS (tools/lay-plain.mjs out of 'YtkndlfdpmpdihaaGreatDoorRSx.lean', which tools/lay-shelf.mjs wrote): THE SAME DECLARATIONS UNDER THE SAME NAMES: 'import', 'namespace', 'open', 'def', 'theorem' AND NOTHING ELSE: no command of the shelf's: FOR A HAND-IN. Each laying: the table of numbers ('.._ren') and one theorem, a field a fact of the dump's own or the k Conditions: those that each statement shows. -/
import Derived.Test.YtkndlfdpmpdihaaGreatDoorProg
import Derived.Maps.RangeWalk
import Derived.WalkKit
import Derived.ProofKit
import Derived.Lib.Hide
import Derived.Shelf.SlSortCmp.SmallK
import Derived.Shelf.Small.Bits
import Derived.Ground.SlsfProg
import Derived.Ground.NamesProg
import Derived.Test.YtkndlfdpmpdihaaGreatDoorA06
import Derived.Shelf.GgSortFunc.RowK
import Derived.Shelf.GgSortFunc.InsertionK
import Derived.Test.YtkndlfdpmpdihaaGreatDoorA26
import Derived.Test.YtkndlfdpmpdihaaGreatDoorA25
namespace Go.Proofs.YtkndlfdpmpdihaaGreatDoor
open Go.RowKit Go.ChangeMaps
set_option linter.unusedVariables false
set_option linter.unusedSimpArgs false
section
variable {P : Program} {ops : Array Oper} {Q : Exit → Act → World → Prop} {rest : List Oper} {o : Oper} {a : Act} {w : World}
theorem wpList_range_raw (hg : o.guard = none) (m : Operand) (t : TypeId) (hop : o.op = Op.range t m) (k e : TypeId) (ht : P.underlying t = some (.map k e)) (b : Nat) (hm : a.eval m = .map (some b)) (es : Array MapEntry) (c : Nat) (hb : w.heap[b]? = some (.map es c))
    (h : wpList P ops Q rest (a.put o.dst (.pointer (some ⟨w.heap.size, 0, none⟩))) (w.alloc (.mapIter (some b) c #[] c))) : wpList P ops Q (o :: rest) a w := by
  refine wpList_plain hg fun K' hK' => ?_
  unfold Oper.wp
  have hr : (Instr.range t (.map (some b))).run P w = .ok (.pointer (some ⟨w.heap.size, 0, none⟩)) (w.alloc (.mapIter (some b) c #[] c)) := by
    simp only [Instr.range, underlying, program, Sem.run_bind, Sem.run, Result.andThen_ok, ht, getObj, newObj, hb, Sem.run_pure]
    rfl
  simp [execOp, hop, hm, hr, Result.andThen]
  exact hK' _ _ h
theorem wpList_next_raw (hg : o.guard = none) (it : Operand) (hop : o.op = Op.next it false) (r bm since c0 : Nat) (seen : Array Nat) (es : Array MapEntry) (clock : Nat) (hit : a.eval it = .pointer (some ⟨r, 0, none⟩))
    (hr : w.heap[r]? = some (.mapIter (some bm) since seen c0)) (hb : w.heap[bm]? = some (.map es clock)) (hold : ∀ x ∈ es.toList, x.born < since) (hsc : since ≤ c0)
    (hDone : (leftOf es seen).size = 0 → wpList P ops Q rest (a.put o.dst (.tuple #[.bool false])) w)
    (hMore : ∀ e ∈ (leftOf es seen).toList, ∀ w1 : World, Hid (w1 = w ∨ w1 = w.drew) → wpList P ops Q rest (a.put o.dst (.tuple #[.bool true, e.key, e.val])) (setBlock w1 r (.mapIter (some bm) since (seen.push e.born) clock))) :
    wpList P ops Q (o :: rest) a w := by
  refine wpList_plain hg fun K' hK' => ?_
  unfold Oper.wp
  rcases run_next_at (P := P) w o.type r bm since c0 seen es clock hr hb hold hsc with ⟨h0, hrun⟩ | ⟨e, he, w1, hw, hrun⟩
  · simp [execOp, hop, hit, hrun, Result.andThen]
    exact hK' _ _ (hDone h0)
  · simp [execOp, hop, hit, hrun, Result.andThen]
    exact hK' _ _ (hMore e he w1 (Lib.hid hw))
end
end Go.Proofs.YtkndlfdpmpdihaaGreatDoor
namespace Go.Proofs.YtkndlfdpmpdihaaGreatDoor
open Go.RowKit Go.ChangeMaps
set_option linter.unusedVariables false
set_option linter.unusedSimpArgs false
theorem left_push (es : Array MapEntry) (seen : Array Nat) (b : Nat) : (leftOf es (seen.push b)).toList = (leftOf es seen).toList.filter (fun x => !(x.born == b)) := by
  unfold leftOf
  rw [Array.toList_filter, Array.toList_filter, List.filter_filter]
  congr 1
  funext x
  cases h : (x.born == b) <;> simp_all [Array.contains_push]
theorem perm_out : ∀ (l : List MapEntry) (e : MapEntry), e ∈ l → (l.map (·.born)).Nodup → l.Perm (e :: l.filter (fun x => !(x.born == e.born)))
  | x :: l, e, h, hn => by
    rw [List.map_cons, List.nodup_cons] at hn
    by_cases hx : x.born = e.born
    · have hxe : e = x := by
        rcases List.mem_cons.1 h with rfl | hm
        · rfl
        · exact absurd (by rw [hx]; exact List.mem_map_of_mem hm) hn.1
      subst hxe
      have hf : l.filter (fun y => !(y.born == e.born)) = l := by
        rw [List.filter_eq_self]
        intro y hy
        simp only [Bool.not_eq_true', beq_eq_false_iff_ne]
        intro hyx
        exact hn.1 (by rw [← hyx]; exact List.mem_map_of_mem hy)
      rw [List.filter_cons]
      simp only [beq_self_eq_true, Bool.not_true, Bool.false_eq_true, if_false]
      rw [hf]
    · rcases List.mem_cons.1 h with rfl | hm
      · exact absurd rfl hx
      · have ih := perm_out l e hm hn.2
        rw [List.filter_cons]
        have hb : (x.born == e.born) = false := by simpa using hx
        simp only [hb, Bool.not_false, if_true]
        exact (List.Perm.cons x ih).trans (List.Perm.swap e x _)
theorem left_nodup (es : Array MapEntry) (seen : Array Nat) (hn : (es.toList.map (·.born)).Nodup) : ((leftOf es seen).toList.map (·.born)).Nodup := by
  unfold leftOf
  rw [Array.toList_filter]
  exact List.Nodup.sublist (List.Sublist.map _ List.filter_sublist) hn
theorem left_sub (es : Array MapEntry) (seen : Array Nat) (e : MapEntry) (h : e ∈ (leftOf es seen).toList) : e ∈ es.toList := by
  unfold leftOf at h
  rw [Array.toList_filter] at h
  exact (List.mem_filter.1 h).1
theorem left_none (es : Array MapEntry) : (leftOf es #[]).toList = es.toList := by
  unfold leftOf
  rw [Array.toList_filter]
  simp
/-- A step: the one that comes goes from what is left. -/
theorem left_step {α : Type} (es : Array MapEntry) (seen : Array Nat) (kk : MapEntry → α) (pre : List α) (e : MapEntry) (hn : (es.toList.map (·.born)).Nodup) (he : e ∈ (leftOf es seen).toList) (hp : (pre ++ (leftOf es seen).toList.map kk).Perm (es.toList.map kk)) :
    ((pre ++ [kk e]) ++ (leftOf es (seen.push e.born)).toList.map kk).Perm (es.toList.map kk) ∧ (leftOf es (seen.push e.born)).size + 1 = (leftOf es seen).size := by
  have h1 := perm_out _ e he (left_nodup es seen hn)
  rw [← left_push] at h1
  constructor
  · have h2 := (h1.map kk).append_left pre
    rw [List.map_cons] at h2
    rw [List.append_assoc]
    exact h2.symm.trans hp
  · have := h1.length_eq
    simp only [List.length_cons, Array.length_toList] at this
    omega
end Go.Proofs.YtkndlfdpmpdihaaGreatDoor
namespace Go.Proofs
open Go.Shelf
def Tryz.sortRg_ren : Go.Shelf.Ren := ⟨fun | 6 => 195 | 15 => 184 | 14 => 263 | 28 => 257 | 29 => 258 | 20 => 311 | 21 => 312 | 22 => 313 | 23 => 314 | 24 => 315 | 25 => 316 | 26 => 317 | 27 => 318 | 46 => 354 | 47 => 306 | 48 => 307 | 49 => 355 | 50 => 356 | 57 => 384 | n => n, fun | 22 => 255 | 24 => 177 | 25 => 349 | 3 => 3 | 39 => 259 | 0 => 0 | 53 => 22 | 55 => 37 | 4 => 4 | 46 => 393 | 45 => 392 | 50 => 397 | 5 => 5 | 9 => 9 | 66 => 437 | 70 => 361 | 76 => 480 | 77 => 335 | n => n, fun | n => n⟩
theorem Tryz.sortRg : Go.Proofs.SlLaysF0.n6 Tryz.prog Tryz.sortRg_ren := {
  mixed := by kernel_rfl
  f6 := ⟨Tryz.f195.name, by decide, Tryz.func195.trans (congrArg some (by kernel_rfl))⟩
  f14 := ⟨Tryz.f263.name, by decide, Tryz.func263.trans (congrArg some (by kernel_rfl))⟩
  f15 := Tryz.func184.trans (congrArg some (by kernel_rfl))
  f20 := ⟨Tryz.f311.name, by decide, Tryz.func311.trans (congrArg some (by kernel_rfl))⟩
  f21 := ⟨Tryz.f312.name, by decide, Tryz.func312.trans (congrArg some (by kernel_rfl))⟩
  f22 := ⟨Tryz.f313.name, by decide, Tryz.func313.trans (congrArg some (by kernel_rfl))⟩
  f23 := ⟨Tryz.f314.name, by decide, Tryz.func314.trans (congrArg some (by kernel_rfl))⟩
  f24 := ⟨Tryz.f315.name, by decide, Tryz.func315.trans (congrArg some (by kernel_rfl))⟩
  f25 := ⟨Tryz.f316.name, by decide, Tryz.func316.trans (congrArg some (by kernel_rfl))⟩
  f26 := ⟨Tryz.f317.name, by decide, Tryz.func317.trans (congrArg some (by kernel_rfl))⟩
  f27 := ⟨Tryz.f318.name, by decide, Tryz.func318.trans (congrArg some (by kernel_rfl))⟩
  f28 := Tryz.func257.trans (congrArg some (by kernel_rfl))
  f29 := Tryz.func258.trans (congrArg some (by kernel_rfl))
  f46 := ⟨Tryz.f354.name, by decide, Tryz.func354.trans (congrArg some (by kernel_rfl))⟩
  f47 := Tryz.func306.trans (congrArg some (by kernel_rfl))
  f48 := Tryz.func307.trans (congrArg some (by kernel_rfl))
  f49 := ⟨Tryz.f355.name, by decide, Tryz.func355.trans (congrArg some (by kernel_rfl))⟩
  f50 := ⟨Tryz.f356.name, by decide, Tryz.func356.trans (congrArg some (by kernel_rfl))⟩
  f57 := ⟨Tryz.f384.name, by decide, Tryz.func384.trans (congrArg some (by kernel_rfl))⟩
  t0 := Tryz.underlying0
  a0 := Tryz.isAgg0
  z0 := Tryz.sizeOf0
  v0 := Tryz.zeroValue0
  t3 := Tryz.underlying3
  a3 := Tryz.isAgg3
  z3 := Tryz.sizeOf3
  v3 := Tryz.zeroValue3
  t4 := Tryz.underlying4
  a4 := Tryz.isAgg4
  z4 := Tryz.sizeOf4
  v4 := Tryz.zeroValue4
  t5 := Tryz.underlying5
  a5 := Tryz.isAgg5
  z5 := Tryz.sizeOf5
  v5 := Tryz.zeroValue5
  t9 := Tryz.underlying9
  a9 := Tryz.isAgg9
  z9 := Tryz.sizeOf9
  v9 := Tryz.zeroValue9
  t22 := Tryz.underlying255
  a22 := Tryz.isAgg255
  z22 := Tryz.sizeOf255
  v22 := Tryz.zeroValue255
  t25 := Tryz.underlying349
  a25 := Tryz.isAgg349
  z25 := Tryz.sizeOf349
  v25 := Tryz.zeroValue349
  t39 := Tryz.underlying259
  a39 := Tryz.isAgg259
  z39 := Tryz.sizeOf259
  v39 := Tryz.zeroValue259
  t45 := Tryz.underlying392
  a45 := Tryz.isAgg392
  z45 := Tryz.sizeOf392
  v45 := Tryz.zeroValue392
  t46 := Tryz.underlying393
  a46 := Tryz.isAgg393
  z46 := Tryz.sizeOf393
  v46 := Tryz.zeroValue393
  t50 := Tryz.underlying397
  a50 := Tryz.isAgg397
  z50 := Tryz.sizeOf397
  v50 := Tryz.zeroValue397
  t53 := Tryz.underlying22
  a53 := Tryz.isAgg22
  z53 := Tryz.sizeOf22
  v53 := Tryz.zeroValue22
  t55 := Tryz.underlying37
  a55 := Tryz.isAgg37
  z55 := Tryz.sizeOf37
  v55 := Tryz.zeroValue37
  t66 := Tryz.underlying437
  a66 := Tryz.isAgg437
  z66 := Tryz.sizeOf437
  v66 := Tryz.zeroValue437
  t70 := Tryz.underlying361
  a70 := Tryz.isAgg361
  z70 := Tryz.sizeOf361
  v70 := Tryz.zeroValue361
  t76 := Tryz.underlying480
  a76 := Tryz.isAgg480
  z76 := Tryz.sizeOf480
  v76 := Tryz.zeroValue480
  t77 := Tryz.underlying335
  a77 := Tryz.isAgg335
  z77 := Tryz.sizeOf335
  v77 := Tryz.zeroValue335 }
def Tryz.bitsLen64_ren : Go.Shelf.Ren := ⟨fun | 129 => 258 | n => n, fun | 53 => 37 | 3 => 3 | 4 => 4 | 46 => 259 | 5 => 5 | 9 => 9 | n => n, fun | n => n⟩
theorem Tryz.bitsLen64 : Go.Proofs.Lays.n129 Tryz.prog Tryz.bitsLen64_ren := {
  mixed := by kernel_rfl
  f129 := Tryz.func258.trans (congrArg some (by kernel_rfl))
  t3 := Tryz.underlying3
  a3 := Tryz.isAgg3
  z3 := Tryz.sizeOf3
  v3 := Tryz.zeroValue3
  t4 := Tryz.underlying4
  a4 := Tryz.isAgg4
  z4 := Tryz.sizeOf4
  v4 := Tryz.zeroValue4
  t5 := Tryz.underlying5
  a5 := Tryz.isAgg5
  z5 := Tryz.sizeOf5
  v5 := Tryz.zeroValue5
  t9 := Tryz.underlying9
  a9 := Tryz.isAgg9
  z9 := Tryz.sizeOf9
  v9 := Tryz.zeroValue9
  t46 := Tryz.underlying259
  a46 := Tryz.isAgg259
  z46 := Tryz.sizeOf259
  v46 := Tryz.zeroValue259
  t53 := Tryz.underlying37
  a53 := Tryz.isAgg37
  z53 := Tryz.sizeOf37
  v53 := Tryz.zeroValue37 }
def Tryz.bitsLen_ren : Go.Shelf.Ren := ⟨fun | 125 => 184 | 128 => 257 | 129 => 258 | n => n, fun | 46 => 259 | 3 => 3 | 51 => 22 | 53 => 37 | 4 => 4 | 5 => 5 | 9 => 9 | n => n, fun | n => n⟩
theorem Tryz.bitsLen : Go.Proofs.Lays.n125 Tryz.prog Tryz.bitsLen_ren := {
  mixed := by kernel_rfl
  f125 := Tryz.func184.trans (congrArg some (by kernel_rfl))
  f128 := Tryz.func257.trans (congrArg some (by kernel_rfl))
  f129 := Tryz.func258.trans (congrArg some (by kernel_rfl))
  t3 := Tryz.underlying3
  a3 := Tryz.isAgg3
  z3 := Tryz.sizeOf3
  v3 := Tryz.zeroValue3
  t4 := Tryz.underlying4
  a4 := Tryz.isAgg4
  z4 := Tryz.sizeOf4
  v4 := Tryz.zeroValue4
  t5 := Tryz.underlying5
  a5 := Tryz.isAgg5
  z5 := Tryz.sizeOf5
  v5 := Tryz.zeroValue5
  t9 := Tryz.underlying9
  a9 := Tryz.isAgg9
  z9 := Tryz.sizeOf9
  v9 := Tryz.zeroValue9
  t46 := Tryz.underlying259
  a46 := Tryz.isAgg259
  z46 := Tryz.sizeOf259
  v46 := Tryz.zeroValue259
  t51 := Tryz.underlying22
  a51 := Tryz.isAgg22
  z51 := Tryz.sizeOf22
  v51 := Tryz.zeroValue22
  t53 := Tryz.underlying37
  a53 := Tryz.isAgg37
  z53 := Tryz.sizeOf37
  v53 := Tryz.zeroValue37 }
end Go.Proofs
namespace Go.Proofs.YtkndlfdpmpdihaaGreatDoor
open Go.RowKit Go.Sort
set_option linter.unusedVariables false
set_option linter.unusedSimpArgs false
def regC (pre : List (Int × Int)) : List Value := (pre.map fun x => [U x.1, U x.2]).flatten
theorem regC_append (a b : List (Int × Int)) : regC (a ++ b) = regC a ++ regC b := by simp [regC]
def encRg (x : Int × Int) : List Value := [U x.1, U x.2]
theorem sorted_unique : ∀ (L d : List (Int × Int)), d.Perm L → L.Pairwise (fun a b => a.1 < b.1) → d.Pairwise (fun a b => ¬ b.1 < a.1) → d = L
  | [], d, hp, _, _ => hp.eq_nil
  | a :: L, [], hp, _, _ => absurd hp.symm.eq_nil (by simp)
  | a :: L, b :: t, hp, hL, hd => by
    rw [List.pairwise_cons] at hL hd
    by_cases e : b = a
    · subst e
      rw [sorted_unique L t (List.Perm.cons_inv hp) hL.2 hd.2]
    · have h1 : b ∈ a :: L := hp.subset (by simp)
      have h2 : a ∈ b :: t := hp.symm.subset (by simp)
      rw [List.mem_cons] at h1 h2
      have h1 := h1.resolve_left e
      have h2 := h2.resolve_left (fun x => e x.symm)
      exact absurd (hL.1 b h1) (hd.1 a h2)
theorem regC_length (l : List (Int × Int)) : (regC l).length = l.length * 2 := by
  induction l with
  | nil => rfl
  | cons a l ih => simp [regC] at ih ⊢; omega
theorem regC_get : ∀ (l : List (Int × Int)) (j : Nat), j < l.length * 2 → (regC l)[j]? = some (encRg l[j / 2]!)[j % 2]!
  | [], j, h => by simp at h
  | a :: l, 0, h => by simp [regC, encRg]
  | a :: l, 1, h => by simp [regC, encRg]
  | a :: l, j + 2, h => by
    have ih := regC_get l j (by simp at h; omega)
    have h1 : (j + 2) / 2 = j / 2 + 1 := by omega
    have h2 : (j + 2) % 2 = j % 2 := by omega
    rw [h1, h2]
    simpa [regC] using ih
theorem flat_regC (d : Array (Int × Int)) : (flatK encRg 2 d).toList = regC d.toList := by
  refine List.ext_getElem? fun j => ?_
  by_cases h : j < d.size * 2
  · rw [regC_get _ _ (by simpa using h), Array.getElem?_toList, Array.getElem?_eq_getElem (by simpa using h)]
    have := get_flatK encRg 2 d j h
    rw [getElem!_pos _ j (by simpa using h)] at this
    have hq : j / 2 < d.size := by omega
    have h2 : d.toList[j / 2]! = d[j / 2]! := by rw [getElem!_pos d.toList (j / 2) (by simpa using hq), getElem!_pos d (j / 2) hq]; simp
    rw [this, h2]
  · rw [List.getElem?_eq_none (by simp; omega), List.getElem?_eq_none (by rw [regC_length]; simpa using Nat.le_of_not_lt h)]
theorem holds_row {w : World} {g : Nat} {cur : Array Value} {e : TypeId} {l : List (Int × Int)} (hg : w.heap[g]? = some (.cells cur e (0, 0))) (hc : cur.toList.take (l.length * 2) = regC l) :
    HoldsK encRg 2 w g 0 l.toArray := by
  intro j hj
  have hj' : j < l.length * 2 := by simpa using hj
  have h1 : cur[j]? = some (flatK encRg 2 l.toArray)[j]! := by
    have := regC_get l j hj'
    rw [← hc, List.getElem?_take, if_pos hj', Array.getElem?_toList] at this
    rw [this, get_flatK _ _ _ _ (by simpa using hj')]
    simp
  constructor
  · simp [World.cell?, hg, h1]
  · simp [World.frozen?, hg]
theorem row_sorted {w : World} {g m : Nat} {cur : Array Value} {e : TypeId} {d : Array (Int × Int)} {os : Array Obj} (hg : w.heap[g]? = some (.cells cur e (0, 0))) (hs : d.size * 2 ≤ cur.size) :
    ∃ cur', (sortWorldK encRg 2 w g 0 m d os).heap[g]? = some (.cells cur' e (0, 0)) ∧ cur'.size = cur.size ∧ cur'.toList.take (d.size * 2) = regC d.toList := by
  have hl := (Array.getElem?_eq_some_iff.1 hg).1
  refine ⟨putCells id 0 (flatK encRg 2 d) cur, ?_, by simp [putCells], ?_⟩
  · show ((w.heap.modify g (onCells _)) ++ os)[g]? = _
    rw [Array.getElem?_append_left (by simpa using hl), Array.getElem?_modify, if_pos rfl, hg]
    rfl
  · rw [← flat_regC]
    refine List.ext_getElem? fun j => ?_
    by_cases h : j < d.size * 2
    · rw [List.getElem?_take, if_pos h, Array.getElem?_toList, Array.getElem?_toList, Array.getElem?_eq_getElem (by simp [putCells]; omega), Array.getElem?_eq_getElem (by simpa using h)]
      have := getElem!_pos (flatK encRg 2 d) j (by simpa using h)
      simp [putCells, h, this]
    · rw [List.getElem?_take, if_neg h, List.getElem?_eq_none (by simpa using Nat.le_of_not_lt h)]
theorem sortWorld_other {w : World} {g m j : Nat} {d : Array (Int × Int)} {os : Array Obj} (hj : j ≠ g) (hjs : j < w.heap.size) : (sortWorldK encRg 2 w g 0 m d os).heap[j]? = w.heap[j]? := by
  show ((w.heap.modify g (onCells _)) ++ os)[j]? = _
  rw [Array.getElem?_append_left (by simpa using hjs), Array.getElem?_modify, if_neg (fun x => hj x.symm)]
theorem sortWorld_grown {w : World} {g m : Nat} {d : Array (Int × Int)} {os : Array Obj} : w.grownBy (sortWorldK encRg 2 w g 0 m d os) (some g) := by
  refine ⟨rfl, rfl, rfl, ?_, fun k hk hne => sortWorld_other (fun x => hne (by rw [x])) hk⟩
  show _ ≤ ((w.heap.modify g (onCells _)) ++ os).size
  simp
end Go.Proofs.YtkndlfdpmpdihaaGreatDoor
namespace Go.Proofs.YtkndlfdpmpdihaaGreatDoor
open Go.RowKit Go.Sort Go.Shelf Go.Lib
set_option linter.unusedVariables false
set_option linter.unusedSimpArgs false
theorem cmp197 (x y : Int) (W : World) : Calls Tryz.prog 197 #[U x, U y] W fun e w' => e = .returned (.int .i64 (Lib.compareInt x y)) ∧ w' = W := by
  go_enter Tryz.func197, Tryz.ntmps197
  go_wp2
  all_goals (go_ret; refine ⟨?_, rfl⟩; unfold Lib.compareInt; (repeat' split) <;> first | rfl | (exfalso; omega))
set_option maxHeartbeats 1000000 in
theorem clo196 (x y : Int × Int) (W : World) : Calls Tryz.prog 196 #[.agg #[U x.1, U x.2], .agg #[U y.1, U y.2]] W fun e w' => e = .returned (.int .i64 (Lib.compareInt x.1 y.1)) ∧ ∃ q os', w' = grow (W.drewN q) os' := by
  have hcon := fun W' => cmp197 x.1 y.1 W'
  generalize Lib.compareInt x.1 y.1 = r at hcon ⊢
  go_enter Tryz.func196, Tryz.ntmps196
  go_wp2_with (go_at_call 197; refine (hcon _).mono ?_; rintro e w' ⟨rfl, rfl⟩)
  go_ret
  exact ⟨rfl, 0, _, by rw [alloc_eq_grow, alloc_eq_grow, grow_grow]; rfl⟩
end Go.Proofs.YtkndlfdpmpdihaaGreatDoor
namespace Go.Proofs.YtkndlfdpmpdihaaGreatDoor
open Go.RowKit Go.Sort Go.Shelf Go.Lib
set_option linter.unusedVariables false
set_option linter.unusedSimpArgs false
theorem hlen184 (n : Nat) (W : World) (h : n ≤ 12) : Calls Tryz.prog 184 #[.int .u64 n] W fun e w' => (∃ l : Int, e = .returned (.int .i64 l)) ∧ w' = W :=
  (Any.bits_Len Tryz.bitsLen n W (by omega) (by omega)).mono fun _ _ ⟨he, hw⟩ => ⟨⟨_, he⟩, hw⟩
set_option maxHeartbeats 1000000 in
theorem none311 (fv : Value) (w : World) : Calls Tryz.prog 311 #[.slice none 0 0, .int .i64 0, .int .i64 0, fv] w fun e w' => e = .returned (.tuple #[]) ∧ w' = w := by
  go_enter Tryz.func311, Tryz.ntmps311
  go_wp2
  refine wp_loop_rounds 1 ?_
  rw [rounds_succ]
  go_wp2
  go_end0
  exact ⟨rfl, rfl⟩
set_option maxHeartbeats 1000000 in
theorem none263 (lim : Int) (fv : Value) (w : World) : Calls Tryz.prog 263 #[.slice none 0 0, .int .i64 0, .int .i64 0, .int .i64 lim, fv] w fun e w' => e = .returned (.tuple #[]) ∧ w' = w := by
  have hi := fun W => none311 fv W
  go_enter Tryz.func263, Tryz.ntmps263
  go_wp2
  refine wp_loop_rounds 1 ?_
  rw [rounds_succ]
  go_wp2_with (go_at_call 311; refine (hi _).mono ?_; rintro e w' ⟨rfl, rfl⟩)
  (try simp only [Exit.inBlock, Exit.then]); refine bodyPost_ret (results_none rfl _ _ _) rfl ?_
  exact ⟨rfl, rfl⟩
set_option maxHeartbeats 1000000 in
theorem none195 (fv : Value) (w : World) : Calls Tryz.prog 195 #[.slice none 0 0, fv] w fun e w' => e = .returned (.tuple #[]) ∧ w' = w := by
  have hp := fun lim W => none263 lim fv W
  have hl : ∀ W, Calls Tryz.prog 184 #[.int .u64 0] W fun e w' => e = .returned (.int .i64 (Lib.bitLen 0 : Nat)) ∧ w' = W := fun W => by
    have h := Any.bits_Len Tryz.bitsLen 0 W (by omega) (by omega)
    exact h
  go_enter Tryz.func195, Tryz.ntmps195
  go_wp2_with (first | (go_at_call 184; refine (hl _).mono ?_; rintro e w' ⟨rfl, rfl⟩) | (go_at_call 263; refine (hp _ _).mono ?_; rintro e w' ⟨rfl, rfl⟩))
  go_end0
  exact ⟨rfl, rfl⟩
def cfRg (x y : Int × Int) : Int := Lib.compareInt x.1 y.1
theorem ltRg (x y : Int × Int) : ltOf cfRg x y = decide (x.1 < y.1) := by
  unfold ltOf cfRg Lib.compareInt
  by_cases h : x.1 < y.1
  · simp [h]
  · by_cases h2 : x.1 > y.1 <;> simp [h, h2]
theorem swoRg : SWO (ltOf cfRg) := by
  refine ⟨fun x => ?_, fun x y z h1 h2 => ?_, fun x y z h1 h2 => ?_⟩ <;> simp only [ltRg, decide_eq_true_eq, decide_eq_false_iff_not] at * <;> omega
instance : Inhabited (Int × Int) := ⟨(0, 0)⟩
set_option maxHeartbeats 1000000 in
theorem sort195 {w : World} {base : Nat} {v : Value} {pre L : List (Int × Int)} (hO : w.ownsRow base 177 2 v pre.length (regC pre)) (hp : pre.Perm L) (hL : L.Pairwise (fun a b => a.1 < b.1)) (h12 : pre.length ≤ 12) :
    Calls Tryz.prog 195 #[v, .func (.func 196) #[] #[]] w fun e w' => e = .returned (.tuple #[]) ∧ w'.ownsRow base 177 2 v L.length (regC L) ∧ w.grownBy w' v.ownBlock := by
  obtain ⟨h0, ⟨rfl, hn⟩ | ⟨g, cap, cur, rfl, hb, hg, hcap, hmax, hcs, hct⟩⟩ := hO
  · have e0 : pre = [] := List.eq_nil_of_length_eq_zero hn
    subst e0
    have e1 := hp.symm.eq_nil
    subst e1
    refine (none195 (.func (.func 196) #[] #[]) w).mono ?_
    rintro e w' ⟨rfl, rfl⟩
    exact ⟨rfl, World.ownsRow_nil _ _ _ _, ⟨rfl, rfl, rfl, Nat.le_refl _, fun k hk _ => rfl⟩⟩
  · have hgl := (Array.getElem?_eq_some_iff.1 hg).1
    have eg : ∀ args w, (callFunc 196 args).run Tryz.prog w = .ok (.enter 196 args) w := enters_of Tryz.func196 (by kernel_rfl) rfl
    have hcon := AnyQ.slices_SortFunc_small_sorted Tryz.sortRg 2 (fun w => by kernel_rfl) (fun w => by kernel_rfl) encRg (fun _ => rfl) (fun x v hv => by simp [encRg] at hv; rcases hv with rfl | rfl <;> rfl) cfRg 196 #[] swoRg g 0 cap pre.toArray w eg (fun _ _ _ _ x y => clo196 x y _) (holds_row hg hct) hgl (by simpa using h12) hlen184
    refine Calls.mono hcon ?_
    rintro e w' ⟨rfl, d', n, os, hP, hS, rfl⟩
    obtain ⟨hp1, _, hp2⟩ := hP
    have hds : d'.size = pre.length := by simpa using hp1
    have hperm : d'.toList.Perm pre := by
      have e3 : (d'.extract 0 pre.toArray.size).toList = d'.toList := by
        rw [Array.toList_extract, List.extract_eq_take_drop]
        rw [List.drop_zero]
        exact List.take_of_length_le (by simp [hds])
      have e4 : (pre.toArray.extract 0 pre.toArray.size).toList = pre := by simp
      rw [e3, e4] at hp2
      exact hp2
    have e2 : d'.toList = L := by
      refine sorted_unique L _ (hperm.trans hp) hL ?_
      rw [List.pairwise_iff_getElem]
      intro i j hi hj hij
      have hi' : i < d'.size := by simpa using hi
      have hj' : j < d'.size := by simpa using hj
      have := hS i j (Nat.zero_le _) hij (by simpa [← hds] using hj')
      rw [ltRg, getElem!_pos d' j hj', getElem!_pos d' i hi'] at this
      simpa using this
    have hLl : L.length = pre.length := hp.symm.length_eq
    refine ⟨rfl, ?_, sortWorld_grown⟩
    obtain ⟨cur', c1, c2, c3⟩ := row_sorted (m := n) (os := os) (d := d') hg (by omega)
    refine ⟨regC_length L, .inr ⟨g, cap, cur', by rw [hLl], hb, c1, by omega, hmax, by omega, ?_⟩⟩
    rw [← e2, ← c3, e2]
    congr 1
    omega
end Go.Proofs.YtkndlfdpmpdihaaGreatDoor
namespace Go.Proofs.YtkndlfdpmpdihaaGreatDoor
open Go.RowKit Go.ChangeMaps
set_option linter.unusedVariables false
set_option linter.unusedSimpArgs false
theorem info177 : (Tryz.prog.info? 177).map (fun i => (i.zero, i.size, i.bytes)) = some (some (.agg #[U 0, U 0]), 2, 8) := by kernel_rfl
def RelRG (w0 : World) (r mp c : Nat) (es : Array MapEntry) (kk : MapEntry → Int × Int) (k : Nat) (v : Value) (wr : World) : Prop :=
  ∃ (pre : List (Int × Int)) (seen : Array Nat) (c0 : Nat), wr.heap[r]? = some (.mapIter (some mp) c seen c0) ∧ wr.heap[mp]? = some (.map es c) ∧ c ≤ c0 ∧ k = (leftOf es seen).size ∧ (pre ++ (leftOf es seen).toList.map kk).Perm (es.toList.map kk) ∧
    wr.ownsRow (w0.heap.size + 1) 177 2 v pre.length (regC pre) ∧ Below w0.heap.size w0 wr ∧ w0.heap.size + 1 ≤ wr.heap.size ∧ (pre = [] → v = .slice none 0 0)
theorem next_world {w w1 : World} {r : Nat} {o o0 : Obj} (hw : w1 = w ∨ w1 = w.drew) (hr : w.heap[r]? = some o0) : (setBlock w1 r o).heap[r]? = some o ∧ (∀ j, j ≠ r → (setBlock w1 r o).heap[j]? = w.heap[j]?) ∧ w.grownBy (setBlock w1 r o) (some r) ∧ (setBlock w1 r o).heap.size = w.heap.size := by
  have hl := (Array.getElem?_eq_some_iff.1 hr).1
  have e : w1.heap = w.heap := by rcases hw with rfl | rfl <;> rfl
  have h1 : (setBlock w1 r o).heap = w.heap.setIfInBounds r o := by show w1.heap.setIfInBounds r o = _; rw [e]
  have h2 : ∀ j, j ≠ r → (setBlock w1 r o).heap[j]? = w.heap[j]? := fun j hj => by rw [h1, Array.getElem?_setIfInBounds_ne (fun x => hj x.symm)]
  have hs : (setBlock w1 r o).heap.size = w.heap.size := by rw [h1]; simp
  refine ⟨by rw [h1, Array.getElem?_setIfInBounds_self, if_pos hl], h2, ⟨?_, ?_, ?_, Nat.le_of_eq hs.symm, fun i hi hne => h2 i (fun x => hne (by rw [x]))⟩, hs⟩
  · rcases hw with rfl | rfl <;> rfl
  · rcases hw with rfl | rfl <;> rfl
  · rcases hw with rfl | rfl <;> rfl
set_option maxRecDepth 100000 in
set_option maxHeartbeats 1000000 in
theorem regions_walk (w : World) (b mp c : Nat) (es : Array MapEntry) (kk : MapEntry → Int × Int) (hb : w.cell? ⟨b, 0, none⟩ = some (.map (some mp))) (hm : w.heap[mp]? = some (.map es c))
    (hk : ∀ e ∈ es.toList, e.key = .agg #[U (kk e).1, U (kk e).2]) (hold : ∀ x ∈ es.toList, x.born < c) (hn : (es.toList.map (·.born)).Nodup) (h64 : es.size ≤ 12) (L : List (Int × Int)) (hL : L.Perm (es.toList.map kk)) (hLs : L.Pairwise (fun a b => a.1 < b.1)) :
    Calls Tryz.prog 135 #[.pointer (some ⟨b, 0, none⟩)] w fun e w' => ∃ v, e = .returned v ∧ w'.ownsRow w.heap.size 177 2 v L.length (regC L) ∧ Below w.heap.size w w' ∧ (L = [] → v = .slice none 0 0) := by
  obtain ⟨i177, hi, hz0, hz1, hz2⟩ := info_parts info177
  have HM := Lib.hid hm
  have HK := Lib.hid hk
  have HOLD := Lib.hid hold
  have HN := Lib.hid hn
  clear hm hk hold hn
  go_enter Tryz.func135, Tryz.ntmps135
  go_wp2_with (first | (at_range; refine wpList_range_raw rfl _ 180 rfl _ _ Tryz.underlying180 mp rfl es c HM.out ?_) | fail)
  have hst : RelRG w w.heap.size mp c es kk (leftOf es #[]).size (.slice none 0 0) (w.alloc (.mapIter (some mp) c #[] c)) := by
    refine ⟨[], #[], c, heap_alloc_new w _, ?_, Nat.le_refl _, rfl, ?_, World.ownsRow_nil _ _ _ _, (Below.refl _ _).alloc (Nat.le_refl _) _, by show _ ≤ (w.heap.push _).size; simp, fun _ => rfl⟩
    · have hl := (Array.getElem?_eq_some_iff.1 HM.out).1
      rw [Below.heap_alloc w _ mp hl]; exact HM.out
    · rw [left_none]; exact List.Perm.refl _
  go_frame
  go_loopg [3] (leftOf es #[]).size (fun k v wr => RelRG w w.heap.size mp c es kk k v wr)
  case atStart => exact hst
  case round =>
    obtain ⟨pre, seen, c0, hr, hm, hc0, hkk, hp, hO, hB, hS, hNil⟩ := hrel
    have HR := Lib.hid hr
    have HM2 := Lib.hid hm
    have HO := Lib.hid hO
    have HB := Lib.hid hB
    have HP := Lib.hid hp
    have HKK := Lib.hid hkk
    clear hr hm hO hB hp hkk hst
    go_wp2_with (first | (at_next; refine wpList_next_raw rfl _ rfl w.heap.size mp c c0 seen es c rfl HR.out HM2.out HOLD.out hc0 ?_ ?_) | fail)
    · intro h0
      have hpl : (pre.Perm L) := by
        have := HP.out
        rw [h0] at this
        simp only [List.map_nil, List.append_nil] at this
        exact this.trans hL.symm
      have hp12 : pre.length ≤ 12 := by
        have h1 := hpl.length_eq
        have h2 := hL.length_eq
        simp at h2
        omega
      have hB := HB.out
      have hO := HO.out
      have hsort := sort195 hO hpl hLs hp12
      have hbase : ∀ k, u3.ownBlock = some k → w.heap.size ≤ k := fun k hk => by have := own_base hO k hk; omega
      clear HR HM2 HO HB HP HKK
      go_wp2_with (go_at_call 195; refine hsort.mono ?_; rintro e w' ⟨rfl, hO2, hG2⟩)
      go_ret
      obtain ⟨o1, o2⟩ := hO2
      refine ⟨_, rfl, ⟨o1, o2.imp id ?_⟩, hB.grown hG2 hB.size hbase, fun e => hNil (List.Perm.eq_nil (e ▸ hpl))⟩
      rintro ⟨g, cap, cur, x1, x2, x3⟩
      exact ⟨g, cap, cur, x1, by omega, x3⟩
    · intro e he w1 hw1
      have he' : e ∈ (leftOf es seen).toList := by simpa using he
      obtain ⟨n1, n2, n3, n4⟩ := next_world (o := .mapIter (some mp) c (seen.push e.born) c) hw1.out HR.out
      have hml := (Array.getElem?_eq_some_iff.1 HM2.out).1
      have hmr : mp ≠ w.heap.size := fun x => by have h1 := HR.out; have h2 := HM2.out; rw [x, h1] at h2; cases h2
      have hkey := HK.out e (left_sub es seen e he')
      have hen := run_entry_at (P := Tryz.prog) (setBlock w1 w.heap.size (.mapIter (some mp) c (seen.push e.born) c)) w.heap.size mp c seen es c e n1 ((n2 mp hmr).trans HM2.out) (left_sub es seen e he') HN.out
      rw [hkey] at hen
      have hO2 := HO.out.kept n3 (by
        by_cases hv : Value.ownBlock u3 = none
        · exact .inl hv
        · right; intro hx; have := own_base HO.out _ hx; omega)
      have hB2 := HB.out.grown n3 (by omega) (fun k hk => by cases hk; omega)
      have hMM := (n2 mp hmr).trans HM2.out
      obtain ⟨st1, st2⟩ := left_step es seen kk pre e HN.out he' HP.out
      have hpl : pre.length + 1 ≤ 64 := by
        have h1 := st1.length_eq
        simp only [List.length_append, List.length_map, List.length_cons, List.length_nil, Array.length_toList] at h1
        omega
      have R1 := Lib.hid n1
      have M1 := Lib.hid hMM
      have O1 := Lib.hid hO2
      have B1 := Lib.hid hB2
      have S1 := Lib.hid st1
      have S2 := Lib.hid st2
      have N4 := Lib.hid n4
      rw [hkey]
      clear n1 n2 n3 n4 hO2 hB2 hMM st1 st2 hkey he he' hw1 HR HM2 HO HB HP
      generalize setBlock w1 w.heap.size (.mapIter (some mp) c (seen.push e.born) c) = w2 at *
      generalize kk e = ke at *
      obtain ⟨kb, ks⟩ := ke
      have HO3 : Hid (((w2.alloc (.cells #[U kb, U ks] 177)).alloc (.cells #[U kb, U ks] 177)).ownsRow (w.heap.size + 1) 177 2 u3 pre.length (regC pre)) := Lib.hid ((O1.out.alloc _).alloc _)
      have HCN : Hid (∀ j u, [U kb, U ks][j]? = some u → ((w2.alloc (.cells #[U kb, U ks] 177)).alloc (.cells #[U kb, U ks] 177)).cell? ((⟨w2.heap.size + 1, 0, none⟩ : Addr).add j) = some u) := Lib.hid (by
        have := World.news_of_block (Blk.new (w2.alloc (.cells #[U kb, U ks] 177)) #[U kb, U ks] 177)
        simpa using this)
      have HC21 : Hid (∀ u ∈ [U kb, U ks], u.oneCell' = true) := Lib.hid (by simp [Value.oneCell'])
      have HC31 : Hid (pre.length + 1 ≤ maxLen) := Lib.hid (by unfold maxLen; omega)
      have HC41 : Hid ((pre.length + 1) * 8 ≤ 140737488355328) := Lib.hid (by omega)
      have HC51 : Hid (w.heap.size + 1 ≤ ((w2.alloc (.cells #[U kb, U ks] 177)).alloc (.cells #[U kb, U ks] 177)).heap.size) := Lib.hid (by have := N4.out; simp; omega)
      go_wp2_with (at_builtin; (refine wpList_append_lies _ rfl (.tmp 16) (.tmp 18) 255 rfl (w.heap.size + 1) 177 i177 (.agg #[U 0, U 0]) 2 8 Tryz.underlying255 hi hz0 hz1 hz2 rfl (by omega) _ pre.length _ rfl HO3.out ⟨w2.heap.size + 1, 0, none⟩ 1 1 _ rfl rfl HCN.out HC21.out (by omega) HC31.out HC41.out HC51.out (w2.heap.size + 2) (by simp) ?_); (intro g1 cap1 w4 hown1 hgrow1 hor1 _); (have Q1 := Lib.hid hown1); (have Q2 := Lib.hid hgrow1); (clear hown1 hgrow1 hor1))
      go_roundg (leftOf es (seen.push e.born)).size
      case measure => have := HKK.out; have := S2.out; omega
      case rel =>
        have hsz := N4.out
        have hml := (Array.getElem?_eq_some_iff.1 HM.out).1
        have g1' : ∀ j, j < w2.heap.size → some j ≠ Value.ownBlock u3 → w4.heap[j]? = w2.heap[j]? := fun j hj hne => by
          rw [Q2.out.block j (by simp; omega) hne, Below.heap_alloc _ _ _ (by simp; omega), Below.heap_alloc _ _ _ hj]
        have hne : ∀ j, j < w.heap.size + 1 → some j ≠ Value.ownBlock u3 := fun j hj hx => by
          have := own_base O1.out j hx.symm; omega
        refine ⟨pre ++ [(kb, ks)], seen.push e.born, c, (g1' _ (by omega) (hne _ (by omega))).trans R1.out, (g1' _ (by omega) (hne _ (by omega))).trans M1.out, Nat.le_refl _, rfl, S1.out, ?_, ?_, ?_, fun e => absurd e (by simp)⟩
        · rw [regC_append, List.length_append]
          exact Q1.out
        · exact ((B1.out.alloc (by omega) _).alloc (by simp; omega) _).grown Q2.out (by simp; omega) (fun k hk => by have := own_base O1.out k hk; omega)
        · have := Q2.out.size
          simp at this
          omega
end Go.Proofs.YtkndlfdpmpdihaaGreatDoor
namespace Go.Proofs.YtkndlfdpmpdihaaGreatDoor
open Go.RowKit Go.Ev
set_option linter.unusedVariables false
set_option linter.unusedSimpArgs false
def keyRg (v : Value) : Option (Int × Int) := match v with
  | .agg ⟨[.int .u32 a, .int .u32 b]⟩ => some (a, b)
  | _ => none
def kkRg (e : MapEntry) : Int × Int := (keyRg e.key).getD (0, 0)
def insRg (x : Int × Int) : List (Int × Int) → List (Int × Int)
  | [] => [x]
  | y :: l => match decide (x.1 < y.1) with | true => x :: y :: l | false => y :: insRg x l
def srtRg : List (Int × Int) → List (Int × Int)
  | [] => []
  | x :: l => insRg x (srtRg l)
theorem insRg_perm (x : Int × Int) : ∀ l, (insRg x l).Perm (x :: l)
  | [] => List.Perm.refl _
  | y :: l => by
    unfold insRg
    split
    · exact List.Perm.refl _
    · exact ((insRg_perm x l).cons y).trans (List.Perm.swap x y l)
theorem srtRg_perm : ∀ l, (srtRg l).Perm l
  | [] => List.Perm.refl _
  | x :: l => (insRg_perm x _).trans ((srtRg_perm l).cons x)
def strictRg : List (Int × Int) → Bool
  | [] => true
  | x :: l => (match l with | [] => true | y :: _ => decide (x.1 < y.1)) && strictRg l
theorem strictRg_pw : ∀ l, strictRg l = true → l.Pairwise (fun a b => a.1 < b.1)
  | [], _ => List.Pairwise.nil
  | [x], _ => by simp
  | x :: y :: l, h => by
    unfold strictRg at h
    rw [Bool.and_eq_true, decide_eq_true_eq] at h
    have ih := strictRg_pw (y :: l) h.2
    rw [List.pairwise_cons]
    refine ⟨fun z hz => ?_, ih⟩
    rcases List.mem_cons.1 hz with rfl | hz
    · exact h.1
    · exact Int.lt_trans h.1 ((List.pairwise_cons.1 ih).1 z hz)
def nodupN : List Nat → Bool
  | [] => true
  | x :: l => (l.all fun y => !(Nat.beq x y)) && nodupN l
theorem nodupN_pw : ∀ l, nodupN l = true → l.Nodup
  | [], _ => List.Pairwise.nil
  | x :: l, h => by
    unfold nodupN at h
    rw [Bool.and_eq_true, List.all_eq_true] at h
    rw [List.nodup_cons]
    refine ⟨fun hx => ?_, nodupN_pw l h.2⟩
    have := h.1 x hx
    rw [Nat.beq_refl] at this
    cases this
def okRg (es : List MapEntry) (c : Nat) : Bool := (es.all fun e => (keyRg e.key).isSome && decide (e.born < c)) && (nodupN (es.map (·.born)) && (decide (es.length ≤ 12) && strictRg (srtRg (es.map kkRg))))
/-- Regions on the small world. -/
def regionsB : Ev := fun f args w => match Nat.beq f 135, args with
  | true, ⟨[.pointer (some ⟨b, 0, none⟩)]⟩ => match w.heap[b]? with
    | some (.cells ⟨.map (some m) :: _⟩ _ (0, 0)) => match w.heap[m]? with
        | some (.map es c) => match okRg es.toList c with
          | true => match srtRg (es.toList.map kkRg) with
            | [] => some (.slice none 0 0, w)
            | x :: l => match w with
              | ⟨⟨h⟩, t, d, os, u⟩ => forceNat h.length fun n => forceNat (l.length + 1) fun k => forceL (forceV 20) (regC (x :: l)) fun cs => Go.Ev.spine (h ++ [.cells ⟨cs⟩ 177 (4, 1)]) fun h =>
                some (.slice (some ⟨n, 0, none⟩) k k, ⟨⟨h⟩, t, d, os, u⟩)
          | false => none
        | _ => none
    | _ => none
  | _, _ => none
theorem ar_single {τ : Rel} {v : Value} {ys : Array Value} (h : AR τ ⟨[v]⟩ ys) : ∃ v', ys = #[v'] ∧ VR τ v v' := by
  have hs : ys.size = 1 := h.1.symm
  obtain ⟨v', rfl⟩ := Array.size_eq_one_iff.1 hs
  exact ⟨v', rfl, h.2 0 v v' rfl rfl⟩
theorem key_shape {k : Value} {a b : Int} (h : keyRg k = some (a, b)) : k = .agg #[U a, U b] := by
  unfold keyRg at h
  split at h
  · cases h; rfl
  · cases h
theorem key_vr {τ : Rel} {k k' : Value} {a b : Int} (h : keyRg k = some (a, b)) (hv : VR τ k k') : k' = k ∧ k = .agg #[U a, U b] := by
  unfold keyRg at h
  split at h
  · rename_i a' b'
    cases h
    cases hv with
    | agg xs ys hs hx =>
      obtain ⟨l⟩ := ys
      have hs2 : l.length = 2 := hs.symm
      match l, hs2, hx with
      | [y0, y1], _, hx =>
        have h0 := hx 0 (.int .u32 a) y0 rfl rfl
        have h1 := hx 1 (.int .u32 b) y1 rfl rfl
        cases h0; cases h1
        exact ⟨rfl, rfl⟩
  · cases h
theorem maps_keys {τ : Rel} {es fs : Array MapEntry} (h : ER τ es fs) (hk : ∀ e ∈ es.toList, (keyRg e.key).isSome = true) : es.toList.map (·.key) = fs.toList.map (·.key) ∧ es.toList.map (·.born) = fs.toList.map (·.born) := by
  have hl : es.toList.length = fs.toList.length := by simpa using h.1
  have key : ∀ i (h1 : i < es.toList.length) (h2 : i < fs.toList.length), es.toList[i].key = fs.toList[i].key ∧ es.toList[i].born = fs.toList[i].born := by
    intro i h1 h2
    have h1' : i < es.size := by simpa using h1
    have h2' : i < fs.size := by simpa using h2
    obtain ⟨k1, _, k2⟩ := h.2 i es[i] fs[i] (Array.getElem?_eq_getElem h1') (Array.getElem?_eq_getElem h2')
    have hsm := hk es.toList[i] (List.getElem_mem h1)
    simp only [Array.getElem_toList] at hsm ⊢
    obtain ⟨⟨a, b⟩, hab⟩ := Option.isSome_iff_exists.1 hsm
    exact ⟨(key_vr hab k1).1.symm, k2⟩
  constructor
  · refine List.ext_getElem (by simpa using hl) fun i h1 h2 => ?_
    rw [List.getElem_map, List.getElem_map]
    exact (key i (by simpa using h1) (by simpa using h2)).1
  · refine List.ext_getElem (by simpa using hl) fun i h1 h2 => ?_
    rw [List.getElem_map, List.getElem_map]
    exact (key i (by simpa using h1) (by simpa using h2)).2
theorem regionsB_ok {G : Gl} : EvOk Tryz.prog G regionsB := by
  intro f args wa v wa2 h B w0 τ args' wr hA hw
  unfold regionsB at h
  split at h
  · rename_i b hf
    have hf := Nat.eq_of_beq_eq_true hf
    subst hf
    obtain ⟨p', rfl, hp⟩ := ar_single hA
    split at h
    · rename_i m cr ct hb
      split at h
      · rename_i es c hm
        split at h
        · rename_i hok
          cases hp with
          | ptr _ r _ i ht =>
          obtain ⟨r1, i1, o1, ht1, hr1, hO1⟩ := hw.blk _ _ hb rfl
          obtain ⟨rfl, rfl⟩ := hw.fn _ _ _ _ _ ht ht1
          cases hO1 with
          | cells cs cs' e hcs =>
          obtain ⟨v0, hv0, hvr0⟩ := hcs.get (i := 0) (v := .map (some m)) rfl
          cases hvr0 with
          | map _ m' i2 ht2 =>
          obtain ⟨r3, i3, o3, ht3, hr3, hO3⟩ := hw.blk _ _ hm rfl
          obtain ⟨rfl, rfl⟩ := hw.fn _ _ _ _ _ ht2 ht3
          cases hO3 with
          | map _ fs _ hER =>
          unfold okRg at hok
          rw [Bool.and_eq_true, Bool.and_eq_true, Bool.and_eq_true, List.all_eq_true] at hok
          obtain ⟨k1, k2, k3, k4⟩ := hok
          have k1' : ∀ e ∈ es.toList, (keyRg e.key).isSome = true ∧ e.born < c := fun e he => by
            have := k1 e he
            rw [Bool.and_eq_true, decide_eq_true_eq] at this
            exact this
          obtain ⟨q1, q2⟩ := maps_keys hER (fun e he => (k1' e he).1)
          have hkeys : es.toList.map kkRg = fs.toList.map kkRg := by
            have : ∀ l : List MapEntry, l.map kkRg = (l.map (·.key)).map (fun k => (keyRg k).getD (0, 0)) := fun l => by rw [List.map_map]; rfl
            rw [this, this, q1]
          have hk : ∀ e ∈ fs.toList, e.key = .agg #[U (kkRg e).1, U (kkRg e).2] := by
            intro e he
            have hmem : e.key ∈ es.toList.map (·.key) := by rw [q1]; exact List.mem_map_of_mem he
            obtain ⟨e', he', hke⟩ := List.mem_map.1 hmem
            obtain ⟨⟨a, b⟩, hab⟩ := Option.isSome_iff_exists.1 (k1' e' he').1
            rw [hke] at hab
            have e1 := key_shape hab
            unfold kkRg
            rw [hab]
            exact e1
          have hold : ∀ e ∈ fs.toList, e.born < c := by
            intro e he
            have hmem : e.born ∈ es.toList.map (·.born) := by rw [q2]; exact List.mem_map_of_mem he
            obtain ⟨e', he', hke⟩ := List.mem_map.1 hmem
            rw [← hke]; exact (k1' e' he').2
          have hn : (fs.toList.map (·.born)).Nodup := by rw [← q2]; exact nodupN_pw _ k2
          have h12 : fs.size ≤ 12 := by
            rw [decide_eq_true_eq] at k3
            rw [← hER.1]; simpa using k3
          have hcell : wr.cell? ⟨r, 0, none⟩ = some (.map (some m')) := by
            have : cs'[0]? = some (Value.map (some m')) := hv0
            simp [World.cell?, hr1, this]
          have hL : (srtRg (es.toList.map kkRg)).Perm (fs.toList.map kkRg) := by rw [← hkeys]; exact srtRg_perm _
          have hcon := regions_walk wr r m' c fs kkRg hcell hr3 hk hold hn h12 _ hL (strictRg_pw _ k4)
          refine Calls.mono hcon ?_
          rintro e w' ⟨u, rfl, hown, hbel, hnil⟩
          have hW := hw.belowed hbel
          split at h
          · rename_i hs
            cases h
            rw [hs] at hnil
            rw [hnil rfl]
            exact ⟨τ, _, rfl, Rel.le.refl _, .sl0 0 0, hW⟩
          · rename_i x l hs
            obtain ⟨hh, t, d, os, uu⟩ := wa
            obtain ⟨hh⟩ := hh
            simp only [forceNat_eq, forceL_eq _ (forceV_eq 20), Go.Ev.spine_eq, Option.some.injEq, Prod.mk.injEq] at h
            obtain ⟨rfl, rfl⟩ := h
            rw [hs] at hown
            obtain ⟨ol, ⟨_, o0⟩ | ⟨g, cap, cur, rfl, hge, hg, hcap, hmax, hcsz, htk⟩⟩ := hown
            · simp at o0
            have hor : OR τ (some (cap * 2, 2)) (.cells ⟨regC (x :: l)⟩ 177 (4, 1)) (.cells cur 177 (0, 0)) := by
              refine .more _ _ _ _ 2 ?_ hcsz ?_
              · have := regC_length (x :: l)
                simp at this ⊢
                simp at hcap
                omega
              · intro j v1 v2 hv1 hv2
                have e1 : (regC (x :: l))[j]? = some v1 := by simpa using hv1
                rw [← htk] at e1
                have hj : j < (x :: l).length * 2 := by
                  have := (List.getElem?_eq_some_iff.1 e1).1
                  simp at this ⊢
                  omega
                rw [List.getElem?_take, if_pos hj, Array.getElem?_toList, hv2] at e1
                cases e1
                have e2 : (regC (x :: l))[j]? = some v1 := by simpa using hv1
                have hU : ∀ u ∈ regC (x :: l), ∃ a, u = U a := by
                  intro u hu
                  unfold regC at hu
                  simp only [List.mem_flatten, List.mem_map] at hu
                  obtain ⟨q, ⟨p, _, rfl⟩, hq⟩ := hu
                  simp at hq
                  rcases hq with rfl | rfl <;> exact ⟨_, rfl⟩
                obtain ⟨a, rfl⟩ := hU v1 (List.mem_of_getElem? e2)
                exact .int _ _
            obtain ⟨τ', l1, t1, W1⟩ := hW.addAt hg (by cases e : B g with | none => rfl | some o => have := hw.kp.lt (j := g) (by rw [e]; simp); omega) (fun k i hki => by have := (hw.dom _ _ _ hki).2.1; omega) hor
            refine ⟨τ', _, rfl, l1, ?_, by simpa using W1⟩
            exact .sl _ _ _ _ _ _ _ t1 ⟨hcap, by simp⟩
        · cases h
      · cases h
    · cases h
  · cases h
end Go.Proofs.YtkndlfdpmpdihaaGreatDoor
namespace Go.Ev
/-- A book on trees that says what a book on rows says. -/
theorem EvOkT.of {P : Program} {G : Gl} {bk : Ev} (hb : EvOk P G bk) {bkT : EvF} (h : ∀ f args w v w' H, bkT f args w = some (v, w') → Rep w H → ∃ u', bk f args (wOf H) = some (v, u') ∧ Rep w' u'.heap) : EvOkT P G bkT := by
  intro f args wa v wa2 he B w0 τ args' wr hA hw
  obtain ⟨H, hR, hw⟩ := hw
  obtain ⟨u', h1, h2⟩ := h f args wa v wa2 H he hR
  refine Calls.mono (hb f args (wOf H) v u' h1 B w0 τ args' wr hA hw) ?_
  rintro e wr' ⟨τ', v', rfl, l1, hv, hw'⟩
  exact ⟨τ', v', rfl, l1, hv, _, h2, hw'⟩
end Go.Ev
namespace Go.Proofs.YtkndlfdpmpdihaaGreatDoor
open Go.RowKit Go.Ev
set_option linter.unusedVariables false
set_option linter.unusedSimpArgs false
noncomputable def regionsT : EvF := fun f args w => match Nat.beq f 135, args with
  | true, ⟨[.pointer (some ⟨b, 0, none⟩)]⟩ => match w.blk b with
    | some (.cells ⟨.map (some m) :: _⟩ _ (0, 0)) => match w.blk m with
        | some (.map es c) => match okRg es.toList c with
          | true => match srtRg (es.toList.map kkRg) with
            | [] => some (.slice none 0 0, w)
            | x :: l => match Nat.blt w.n 65536 with
              | true => forceNat (l.length + 1) fun k => forceL (forceV 20) (regC (x :: l)) fun cs => w.pushK (.cells ⟨cs⟩ 177 (4, 1)) fun w' => some (.slice (some ⟨w.n, 0, none⟩) k k, w')
              | false => none
          | false => none
        | _ => none
    | _ => none
  | _, _ => none
theorem regionsT_ok {G : Gl} : EvOkT Tryz.prog G regionsT := by
  refine EvOkT.of regionsB_ok ?_
  intro f args w v w' H h hR
  unfold regionsT at h
  split at h <;> first | (cases h; done) | skip
  rename_i b hf
  split at h <;> first | (cases h; done) | skip
  rename_i m cr ct hb
  have e1 : H[b]? = _ := (hR.blk hb).1
  split at h <;> first | (cases h; done) | skip
  rename_i es c hm
  have e2 : H[m]? = _ := (hR.blk hm).1
  split at h <;> first | (cases h; done) | skip
  rename_i hok
  have e0 := Nat.eq_of_beq_eq_true hf
  subst e0
  split at h
  · rename_i hs
    cases h
    refine ⟨wOf H, ?_, hR⟩
    simp only [regionsB, wOf, Nat.beq_refl, e1, e2, hok, hs]
  · rename_i x l hs
    split at h <;> first | (cases h; done) | skip
    rename_i hlt
    simp only [forceNat_eq, forceL_eq _ (forceV_eq 20), TW.pushK, forceObj_eq, T.setK_eq, Option.some.injEq, Prod.mk.injEq] at h
    obtain ⟨rfl, rfl⟩ := h
    refine ⟨wOf (H.push (.cells ⟨regC (x :: l)⟩ 177 (4, 1))), ?_, ?_⟩
    · simp only [regionsB, wOf, Nat.beq_refl, e1, e2, hok, hs, forceNat_eq, forceL_eq _ (forceV_eq 20), Go.Ev.spine_eq]
      rw [← hR.size]
      obtain ⟨hh⟩ := H
      simp
    · exact hR.push (by simpa [Nat.blt_eq] using hlt) _
end Go.Proofs.YtkndlfdpmpdihaaGreatDoor
