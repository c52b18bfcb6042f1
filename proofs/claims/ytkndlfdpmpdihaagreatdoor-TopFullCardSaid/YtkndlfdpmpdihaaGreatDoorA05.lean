/- Maps whose keys have no address: entries that come and go. No conditions beyond those that each statement shows. -/
import Derived.Test.YtkndlfdpmpdihaaGreatDoorA04
namespace Go.Ev
open Go.RowKit
set_option linter.unusedVariables false
set_option linter.unusedSimpArgs false
section er
variable {τ : Rel}
theorem ER.push {es fs : Array MapEntry} (h : ER τ es fs) {e f : MapEntry} (hk : VR τ e.key f.key) (hv : VR τ e.val f.val) (hb : e.born = f.born) : ER τ (es.push e) (fs.push f) := by
  refine ⟨by simp [h.1], fun i a b ha hb2 => ?_⟩
  rw [Array.getElem?_push] at ha hb2
  rw [h.1] at ha
  by_cases hi : i = fs.size
  · rw [if_pos hi] at ha hb2
    cases ha; cases hb2; exact ⟨hk, hv, hb⟩
  · rw [if_neg hi] at ha hb2
    exact h.2 i a b ha hb2
theorem ER.modify {es fs : Array MapEntry} (h : ER τ es fs) (j : Nat) {key key' v v' : Value} (hk : VR τ key key') (hv : VR τ v v') : ER τ (es.modify j fun e => { e with key := key, val := v }) (fs.modify j fun e => { e with key := key', val := v' }) := by
  refine ⟨by simp [h.1], fun i a b ha hb => ?_⟩
  rw [Array.getElem?_modify] at ha hb
  by_cases hi : j = i
  · rw [if_pos hi] at ha hb
    cases h1 : es[i]? with
    | none => rw [h1] at ha; cases ha
    | some e =>
      cases h2 : fs[i]? with
      | none => rw [h2] at hb; cases hb
      | some f =>
        rw [h1] at ha; rw [h2] at hb
        cases ha; cases hb
        exact ⟨hk, hv, (h.2 i e f h1 h2).2.2⟩
  · rw [if_neg hi] at ha hb
    exact h.2 i a b ha hb
theorem erase_get (es : Array MapEntry) (i j : Nat) (hi : i < es.size) : (es.eraseIdxIfInBounds i)[j]? = if j < i then es[j]? else es[j + 1]? := by
  unfold Array.eraseIdxIfInBounds
  rw [dif_pos hi]
  rw [Array.getElem?_eraseIdx]
theorem ER.erase {es fs : Array MapEntry} (h : ER τ es fs) (i : Nat) : ER τ (es.eraseIdxIfInBounds i) (fs.eraseIdxIfInBounds i) := by
  by_cases hi : i < es.size
  · have hi2 : i < fs.size := by rw [← h.1]; exact hi
    refine ⟨by unfold Array.eraseIdxIfInBounds; rw [dif_pos hi, dif_pos hi2]; simp [h.1], fun j a b ha hb => ?_⟩
    rw [erase_get _ _ _ hi] at ha
    rw [erase_get _ _ _ hi2] at hb
    split at ha
    · rename_i hj; rw [if_pos hj] at hb; exact h.2 _ a b ha hb
    · rename_i hj; rw [if_neg hj] at hb; exact h.2 _ a b ha hb
  · have hi2 : ¬ i < fs.size := by rw [← h.1]; exact hi
    unfold Array.eraseIdxIfInBounds
    rw [dif_neg hi, dif_neg hi2]
    exact h
end er
def updB (P : Program) (H : Array Obj) (t : TypeId) (m key v : Value) : Option (Array Obj) :=
  match P.underlying t, m with
  | some (.map kt _), .map (some k) => match H[k]? with
    | some (.map es c) => match findB P kt key false es with
      | some (some (i, _)) => match es[i]? with
        | some e => if AFb 10 e.key && Instr.sameBits 10000 e.key key then some (H.setIfInBounds k (.map (es.modify i fun e => { e with key := key, val := v }) c)) else none
        | none => none
      | some none => some (H.setIfInBounds k (.map (es.push { key, val := v, born := c }) (c + 1)))
      | none => none
    | _ => none
  | _, _ => none
def delB (P : Program) (H : Array Obj) (t : TypeId) (m key : Value) : Option (Array Obj) :=
  match P.underlying t, m with
  | some (.map kt _), .map (some k) => match H[k]? with
    | some (.map es c) => match findB P kt key es.isEmpty es with
      | some (some (i, _)) => some (H.setIfInBounds k (.map (es.eraseIdxIfInBounds i) c))
      | some none => some (H.setIfInBounds k (.map es c))
      | none => none
    | _ => none
  | _, _ => none
section sound
variable {P : Program} {G : Gl} {B : FM} {w0 : World}
theorem run_setObj {w : World} {r : Nat} {fs : Array MapEntry} {c : Nat} (h : w.heap[r]? = some (.map fs c)) (o : Obj) : (setObj r o).run P w = .ok () { w with heap := w.heap.setIfInBounds r o } := by
  simp [setObj, Sem.run, h]
theorem run_upd {t kt et : TypeId} {key v : Value} {fs : Array MapEntry} {c r : Nat} {w : World} (hu : P.underlying t = some (.map kt et)) (hr : w.heap[r]? = some (.map fs c)) (hc : ∀ w, (Instr.checkKey false 10000 kt key).run P w = .ok () w) {q : Option (Nat × Value)} (hf : ∀ w, (Instr.findKey kt key fs.toList).run P w = .ok q w)
    (hs : ∀ i u, q = some (i, u) → Instr.sameBits 10000 (((fs[i]?).map (·.key)).getD key) key = true) :
    (Instr.mapUpdate t (.map (some r)) key v).run P w = .ok () { w with heap := w.heap.setIfInBounds r (match q with | some (i, _) => .map (fs.modify i fun e => { e with key := key, val := v }) c | none => .map (fs.push { key, val := v, born := c }) (c + 1)) } := by
  simp only [Instr.mapUpdate, Sem.run_bind, run_underlying hu, Result.andThen_ok, getObj, Sem.run, hr, hc, hf]
  cases q with
  | none => exact run_setObj hr _
  | some x =>
    obtain ⟨i, u⟩ := x
    have := hs i u rfl
    simp only [Instr.keyThatStays, this, if_true, Sem.run_bind, Sem.run_pure, Result.andThen_ok]
    exact run_setObj hr _
theorem run_del {t kt et ty : TypeId} {ts : Array TypeId} {key : Value} {fs : Array MapEntry} {c r : Nat} {w : World} (h0 : ts[0]? = some t) (hu : P.underlying t = some (.map kt et)) (hr : w.heap[r]? = some (.map fs c)) (hc : ∀ w, (Instr.checkKey fs.isEmpty 10000 kt key).run P w = .ok () w) {q : Option (Nat × Value)} (hf : ∀ w, (Instr.findKey kt key fs.toList).run P w = .ok q w) :
    (Builtin.delete_ ts ty #[.map (some r), key]).run P w = .ok (.tuple #[]) { w with heap := w.heap.setIfInBounds r (match q with | some (i, _) => .map (fs.eraseIdxIfInBounds i) c | none => .map fs c) } := by
  simp only [Builtin.delete_, h0, List.getElem?_toArray, List.getElem?_cons_zero, List.getElem?_cons_succ, Sem.run_bind, run_underlying hu, Result.andThen_ok, getObj, Sem.run, hr, hc, hf]
  cases q with
  | none => dsimp only; rw [Sem.run_bind, run_setObj hr]; rfl
  | some x => dsimp only; rw [Sem.run_bind, run_setObj hr]; rfl
theorem WR.putMap {τ : Rel} {H : Array Obj} {w : World} {k r : Nat} {es fs : Array MapEntry} {c c0 : Nat} {es0 : Array MapEntry} (h : WR G B w0 τ H w) (ht : τ k r none) (hk : H[k]? = some (.map es0 c0)) (he : ER τ es fs) :
    WR G B w0 τ (H.setIfInBounds k (.map es c)) { w with heap := w.heap.setIfInBounds r (.map fs c) } := by
  have hal : alive H k := ⟨_, hk, rfl⟩
  exact h.put ht hal (.map _ _ c he) rfl (h.kp.put ((h.dom _ _ _ ht).2.2 hal) _)
theorem updB_sound {τ : Rel} {H H' : Array Obj} {wr : World} {t : TypeId} {m m' key key' v v' : Value} (h : updB P H t m key v = some H') (hm : VR τ m m') (hk : VR τ key key') (hv : VR τ v v') (hw : WR G B w0 τ H wr) :
    ∃ wr', (Instr.mapUpdate t m' key' v').run P wr = .ok () wr' ∧ WR G B w0 τ H' wr' := by
  unfold updB at h
  split at h <;> first | (cases h; done) | skip
  rename_i kt et k hu
  split at h <;> first | (cases h; done) | skip
  rename_i es c hh
  cases hm with
  | map _ r i ht =>
    obtain ⟨fs, e1, her, rfl⟩ := hw.map ht hh
    split at h <;> first | (cases h; done) | skip
    · rename_i j u hq
      obtain ⟨rfl, hak, hcc, q', hff, hr⟩ := findB_spec hq hk her
      cases q' with
      | none => exact hr.elim
      | some x =>
        obtain ⟨j', u'⟩ := x
        obtain ⟨rfl, _⟩ := hr
        split at h <;> first | (cases h; done) | skip
        rename_i e hej
        split at h <;> first | (cases h; done) | skip
        rename_i hsb
        rw [Bool.and_eq_true] at hsb
        cases h
        have hfj : ∃ f, fs[j]? = some f ∧ f.key = e.key := by
          have hj := (Array.getElem?_eq_some_iff.1 hej).1
          have hj2 : j < fs.size := by rw [← her.1]; exact hj
          have e2 := Array.getElem?_eq_getElem hj2
          exact ⟨_, e2, (AFb.eq _ _ _ hsb.1 (her.2 j e _ hej e2).1).symm⟩
        obtain ⟨f, hfj, hfk⟩ := hfj
        refine ⟨_, run_upd hu e1 hcc hff (fun i u hiu => ?_), hw.putMap ht hh (her.modify j hk hv)⟩
        cases hiu
        rw [hfj]
        simpa [hfk] using hsb.2
    · rename_i hq
      obtain ⟨rfl, hak, hcc, q', hff, hr⟩ := findB_spec hq hk her
      cases q' with
      | some x => exact hr.elim
      | none =>
        cases h
        exact ⟨_, run_upd hu e1 hcc hff (fun i u hiu => by cases hiu), hw.putMap ht hh (her.push hk hv rfl)⟩
theorem delB_sound {τ : Rel} {H H' : Array Obj} {wr : World} {t ty : TypeId} {ts : Array TypeId} {m m' key key' : Value} (h0 : ts[0]? = some t) (h : delB P H t m key = some H') (hm : VR τ m m') (hk : VR τ key key') (hw : WR G B w0 τ H wr) :
    ∃ wr', (Builtin.delete_ ts ty #[m', key']).run P wr = .ok (.tuple #[]) wr' ∧ WR G B w0 τ H' wr' := by
  unfold delB at h
  split at h <;> first | (cases h; done) | skip
  rename_i kt et k hu
  split at h <;> first | (cases h; done) | skip
  rename_i es c hh
  cases hm with
  | map _ r i ht =>
    obtain ⟨fs, e1, her, rfl⟩ := hw.map ht hh
    split at h <;> first | (cases h; done) | skip
    · rename_i j u hq
      obtain ⟨rfl, hak, hcc, q', hff, hr⟩ := findB_spec hq hk her
      rw [her.empty] at hcc
      cases q' with
      | none => exact hr.elim
      | some x =>
        obtain ⟨j', u'⟩ := x
        obtain ⟨rfl, _⟩ := hr
        cases h
        exact ⟨_, run_del h0 hu e1 hcc hff, hw.putMap ht hh (her.erase j)⟩
    · rename_i hq
      obtain ⟨rfl, hak, hcc, q', hff, hr⟩ := findB_spec hq hk her
      rw [her.empty] at hcc
      cases q' with
      | some x => exact hr.elim
      | none =>
        cases h
        exact ⟨_, run_del h0 hu e1 hcc hff, hw.putMap ht hh her⟩
end sound
end Go.Ev
