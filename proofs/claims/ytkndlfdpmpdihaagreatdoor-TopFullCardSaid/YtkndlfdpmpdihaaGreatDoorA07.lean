/- Regions that draw their order and hold operations that turn the world: what each leaves is told by a predicate on what has come up. Maps told by what they hold at each key; frames that name the blocks that are touched. Conditions: those that each statement shows. -/
import Derived.Test.YtkndlfdpmpdihaaGreatDoorA06
namespace Go.Mv
open Go.RowKit
set_option linter.unusedVariables false
set_option linter.unusedSimpArgs false
section
variable {P : Program} {ops : Array Oper} {D : Array Bool → World → Prop}
/-- What an operation that is carried out leaves: the value v, and a world of the class E. -/
def upon (P : Program) (E : World → Prop) (v : Value) : Result Next → Prop
  | .ok (.value u) w => E w ∧ u = v
  | .ok .skip w => E w ∧ v = undef
  | .ok (.enter f args) w => Calls P f args w (fun e w' => e = .returned v ∧ E w')
  | _ => False
/-- Operation o yields v in world w, and leaves a world of E. -/
def does (P : Program) (o : Oper) (a : Act) (E : World → Prop) (w : World) (v : Value) : Prop := upon P E v ((execOp a.eval o).run P w)
/-- In every world in which it may come up operation k yields v. -/
def Yld (P : Program) (ops : Array Oper) (D : Array Bool → World → Prop) (k : Nat) (o : Oper) (v : Value) (a : Act) : Prop :=
  ∀ L w, k ∈ Region.ready .any ops L → D L w →
    (Region.wanted o (yielded ops a.tmps) = true ∧ does P o a (D (L.setIfInBounds k true)) w v) ∨ (Region.wanted o (yielded ops a.tmps) = false ∧ v = undef ∧ D (L.setIfInBounds k true) w)
def stp (P : Program) (ops : Array Oper) (D : Array Bool → World → Prop) (k : Nat) (K : Act → Prop) (a : Act) : Prop :=
  match ops[k]? with
  | none => False
  | some o => ∃ v, Yld P ops D k o v a ∧ K (a.put o.dst v)
theorem stp_mono {k : Nat} {a : Act} {K K' : Act → Prop} (h : ∀ a, K a → K' a) (hh : stp P ops D k K a) : stp P ops D k K' a := by
  unfold stp at *
  split
  · rename_i h0; rw [h0] at hh; exact hh
  · rename_i o h0
    rw [h0] at hh
    obtain ⟨v, h1, h2⟩ := hh
    exact ⟨v, h1, h _ h2⟩
def anyM (P : Program) (ops : Array Oper) (D : Array Bool → World → Prop) (Q : Act → Prop) : Nat → Array Bool → Act → Prop
  | 0, L, a => Region.ready .any ops L = [] ∧ (∀ j, j < ops.size → L.getD j true = true) ∧ Q a
  | n + 1, L, a => (Region.ready .any ops L = [] → (∀ j, j < ops.size → L.getD j true = true) ∧ Q a) ∧ ∀ i ∈ Region.ready .any ops L, stp P ops D i (anyM P ops D Q n (L.setIfInBounds i true)) a
theorem wp_of_does {o : Oper} {a : Act} {w : World} {v : Value} {E : World → Prop} {K : Act → World → Prop} {Q : Exit → Act → World → Prop} (h : does P o a E w v) (hK : ∀ w', E w' → K (a.put o.dst v) w') : o.wp P a w K Q := by
  unfold does at h
  unfold Oper.wp
  generalize (execOp a.eval o).run P w = r at *
  cases r with
  | halt x w' => exact h.elim
  | ok n w' =>
    cases n with
    | value u => obtain ⟨h1, rfl⟩ := h; exact hK _ h1
    | skip => obtain ⟨h1, rfl⟩ := h; exact hK _ h1
    | enter f args => exact h.mono fun e w'' ⟨he, hw⟩ => by subst he; exact hK _ hw
    | _ => exact h.elim
theorem wpAny_of {Q : Act → Prop} {Q' : Exit → Act → World → Prop} (hQ : ∀ L a w, (∀ j, j < ops.size → L.getD j true = true) → D L w → Q a → Q' .normal a w) : ∀ (n : Nat) (L : Array Bool) (a : Act) (w : World), D L w → anyM P ops D Q n L a → wpAny P .any ops Q' n L a w
  | 0, L, a, w, hD, h => ⟨h.1, hQ L a w h.2.1 hD h.2.2⟩
  | n + 1, L, a, w, hD, h => by
    refine ⟨fun h0 => hQ L a w (h.1 h0).1 hD (h.1 h0).2, fun i hi => ?_⟩
    have h1 := h.2 i hi
    unfold stp at h1
    unfold wpOp
    split
    · rename_i h0; rw [h0] at h1; exact h1.elim
    · rename_i o h0
      rw [h0] at h1
      obtain ⟨v, hy, hK⟩ := h1
      rcases hy L w hi hD with ⟨hw, ha⟩ | ⟨hw, rfl, hd⟩
      · rw [if_pos hw]
        exact .inl (wp_of_does ha fun w' hw' => wpAny_of hQ n _ _ _ hw' hK)
      · rw [if_neg (by rw [hw]; decide)]
        exact wpAny_of hQ n _ _ _ hd hK
theorem Yld.same {k : Nat} {o : Oper} {v : Value} {a a' : Act} (h : Yld P ops D k o v a) (he : execOp a'.eval o = execOp a.eval o) (hw : Region.wanted o (yielded ops a'.tmps) = Region.wanted o (yielded ops a.tmps)) : Yld P ops D k o v a' := by
  intro L w hk hD
  have := h L w hk hD
  unfold does at *
  rwa [he, hw]
/-- Two operations apart from one another. -/
theorem stp_put {j i : Nat} {oi oj : Oper} {v : Value} (hj : ops[j]? = some oj) (hap : oi.apart ops oj = true) (hsi : ∀ cs b, oi.op ≠ .select cs b) (hsj : ∀ cs b, oj.op ≠ .select cs b) {K : Act → Prop} {a : Act} (hy : Yld P ops D i oi v a)
    (h : stp P ops D j K (a.put oi.dst v)) : stp P ops D j (fun a' => Yld P ops D i oi v a' ∧ K (a'.put oi.dst v)) a := by
  obtain ⟨h1, h2, h3⟩ := Oper.apart_spec hap
  unfold stp at *
  simp only [hj] at *
  obtain ⟨u, hu, hK⟩ := h
  refine ⟨u, ?_, hy.same (execOp_put oi hsi a oj.dst u h3) (wanted_put oi a oj.dst u h3), by rw [← Act.put_comm a v u h2]; exact hK⟩
  exact hu.same (execOp_put oj hsj a oi.dst v h1).symm (wanted_put oj a oi.dst v h1).symm
theorem anyM_first {Q : Act → Prop} {i : Nat} {oi : Oper} {v : Value} (hi : ops[i]? = some oi) (hsel : ∀ (j : Nat) (o : Oper) cs b, ops[j]? = some o → o.op ≠ .select cs b) :
    ∀ (n : Nat) (L : Array Bool) (a : Act), (∀ j oj, ops[j]? = some oj → j ≠ i → L.getD j true = false → (∀ e ∈ oj.after, Region.binds .any e = true → e.on ≠ i) → oi.apart ops oj = true) →
      i ∈ Region.ready .any ops L → Yld P ops D i oi v a → anyM P ops D Q n (L.setIfInBounds i true) (a.put oi.dst v) → anyM P ops D Q (n + 1) L a
  | n, L, a, hfree, hr, hy, H => by
    have hstp : ∀ {K : Act → Prop}, K (a.put oi.dst v) → stp P ops D i K a := fun hK => by
      unfold stp
      simp only [hi]
      exact ⟨v, hy, hK⟩
    refine ⟨fun h => (by rw [h] at hr; cases hr), fun j hj => ?_⟩
    by_cases hji : j = i
    · subst hji; exact hstp H
    cases n with
    | zero =>
      have := ready_mono hj hji
      rw [H.1] at this
      cases this
    | succ n =>
      have h1 := H.2 j (ready_mono hj hji)
      obtain ⟨hjun, oj, hoj, hall⟩ := mem_ready.1 hj
      have hnot : ∀ e ∈ oj.after, Region.binds .any e = true → e.on ≠ i := fun e he hb heq => by
        have h1 := hall e he hb
        have h0 := (mem_ready.1 hr).1
        rw [heq] at h1
        rcases Nat.lt_or_ge i L.size with h' | h'
        · simp [h'] at h0 h1; rw [h0] at h1; cases h1
        · simp [Array.getElem?_eq_none h'] at h1
      have h2 := stp_put (i := i) hoj (hfree j oj hoj hji hjun hnot) (fun cs b => hsel i oi cs b hi) (fun cs b => hsel j oj cs b hoj) hy h1
      refine stp_mono (fun a' h3 => anyM_first hi hsel n (L.setIfInBounds j true) a' ?_ (ready_mono hr (Ne.symm hji)) h3.1 ?_) h2
      · intro k ok hk hki hun hno
        refine hfree k ok hk hki ?_ hno
        by_cases hjk : j = k
        · subst hjk; exact hjun
        · rw [getD_set_ne true hjk] at hun; exact hun
      · rw [Array.setIfInBounds_comm _ _ hji]
        exact h3.2
/-- The operations one behind the other, in the order in which they stand. -/
def lexM (P : Program) (ops : Array Oper) (D : Array Bool → World → Prop) (Q : Act → Prop) : List Oper → Nat → Act → Prop
  | [], _, a => Q a
  | o :: l, k, a => ∃ v, Yld P ops D k o v a ∧ lexM P ops D Q l (k + 1) (a.put o.dst v)
theorem getD_set_self {L : Array Bool} {i : Nat} : (L.setIfInBounds i true).getD i true = true := by
  rcases Nat.lt_or_ge i L.size with h | h
  · simp [h]
  · simp [Array.getElem?_eq_none h]
theorem anyM_lex {Q : Act → Prop} (hs : Region.noSelect ops = true) : ∀ (l : List Oper) (k : Nat) (L : Array Bool) (a : Act), (∀ j, l[j]? = ops[k + j]?) → (∀ j, j < k → L.getD j true = true) →
    Region.lexFrom .any ops l.length k L = true → lexM P ops D Q l k a → anyM P ops D Q l.length L a
  | [], k, L, a, hl, hk, hB, h => by
    refine ⟨by simpa [Region.lexFrom] using hB, fun j hj => ?_, h⟩
    by_cases h1 : j < k
    · exact hk j h1
    · have := hl (j - k)
      rw [show k + (j - k) = j by omega, Array.getElem?_eq_getElem hj] at this
      simp at this
  | o :: l, k, L, a, hl, hk, hB, h => by
    have h0 : ops[k]? = some o := by simpa using (hl 0).symm
    simp only [List.length_cons, Region.lexFrom, Bool.and_eq_true] at hB
    obtain ⟨⟨hr, hf⟩, hB'⟩ := hB
    obtain ⟨v, hy, hK⟩ := h
    exact anyM_first h0 (Region.noSelect_spec hs) l.length L a (Region.free_spec h0 hf) (by simpa using hr) hy
      (anyM_lex hs l (k + 1) _ _ (fun j => by have := hl (j + 1); simpa [Nat.add_assoc, Nat.add_comm 1 j] using this) (fun j hj => by
        by_cases hjk : k = j
        · subst hjk; exact getD_set_self
        · rw [getD_set_ne true hjk]; exact hk j (by omega)) hB' hK)
/-- One walk serves every order. -/
theorem wp_region_lexM {id : Nat} {Q : Exit → Act → World → Prop} {a : Act} {w : World} (hm : P.follows .mixedOrders = true) (hB : Region.lexB .any ops = true) (hD : D (Array.replicate ops.size false) w.drew)
    (h : lexM P ops D (fun a' => ∀ L w', (∀ j, j < ops.size → L.getD j true = true) → D L w' → Q .normal a' w') ops.toList 0 a) : (Code.region id ops true).wp P Q a w := by
  simp only [Region.lexB, Bool.and_eq_true] at hB
  refine wp_region_any hm (wpAny_of (D := D) (Q := fun a' => ∀ L w', (∀ j, j < ops.size → L.getD j true = true) → D L w' → Q .normal a' w') (fun L a w hL hD h => h L w hL hD) _ _ _ _ hD ?_)
  have := anyM_lex (P := P) (D := D) hB.1 ops.toList 0 (Array.replicate ops.size false) a (by simp) (by omega) (by simpa using hB.2) h
  simpa using this
end
/-! ### One operation turns the world -/
/-- Worlds ahead of operation s (false) and behind it (true). -/
structure Two (E : Bool → World → Prop) where
  b : Bool
  w : World
  h : E b w
section
variable {P : Program} {ops : Array Oper} {E : Bool → World → Prop} {s : Nat}
def waits (ops : Array Oper) (s1 s2 : Nat) : Bool := match ops[s2]? with
  | some o => o.after.any fun e => Region.binds .any e && e.on == s1
  | none => false
theorem waits_listed {L : Array Bool} {k s : Nat} (h : s ∈ Region.ready .any ops L) (hw : waits ops k s = true) : L.getD k true = true := by
  obtain ⟨hj, o', ho', hall⟩ := mem_ready.1 h
  unfold waits at hw
  rw [ho'] at hw
  obtain ⟨i, hi, hb⟩ := Array.any_eq_true.1 hw
  rw [Bool.and_eq_true] at hb
  have h4 := hall _ (Array.getElem_mem hi) hb.1
  rw [beq_iff_eq] at hb
  rw [hb.2] at h4
  rcases Nat.lt_or_ge k L.size with h' | h'
  · simp [h'] at h4 ⊢; exact h4
  · simp [Array.getElem?_eq_none h']
theorem set_true {L : Array Bool} {k j : Nat} (h : L.getD j true = true) : (L.setIfInBounds k true).getD j true = true := by
  by_cases hk : k = j
  · subst hk; exact getD_set_self
  · rw [getD_set_ne true hk]; exact h
/-- All that operation s waits for, through others too; m: from number m - 1 down. -/
def reachL (ops : Array Oper) : Nat → List Nat → List Nat
  | 0, acc => acc
  | m + 1, acc => reachL ops m (if acc.any (fun j => waits ops m j) then m :: acc else acc)
def waitsT (ops : Array Oper) (k s : Nat) : Bool := (reachL ops s [s]).contains k
/-- What has come up is closed. -/
def Clo (ops : Array Oper) (L : Array Bool) : Prop := ∀ j k, j < ops.size → L.getD j true = true → waits ops k j = true → L.getD k true = true ∧ k < ops.size
theorem waits_lt {ops : Array Oper} {L : Array Bool} {k s : Nat} (h : s ∈ Region.ready .any ops L) (hw : waits ops k s = true) (hsz : L.size = ops.size) : k < ops.size := by
  obtain ⟨hj, o', ho', hall⟩ := mem_ready.1 h
  unfold waits at hw
  rw [ho'] at hw
  obtain ⟨i, hi, hb⟩ := Array.any_eq_true.1 hw
  rw [Bool.and_eq_true] at hb
  have h4 := hall _ (Array.getElem_mem hi) hb.1
  rw [beq_iff_eq] at hb
  rw [hb.2] at h4
  rcases Nat.lt_or_ge k ops.size with h' | h'
  · exact h'
  · rw [← hsz] at h'
    simp [Array.getElem?_eq_none h'] at h4
theorem Clo.set {ops : Array Oper} {L : Array Bool} {i : Nat} (h : Clo ops L) (hsz : L.size = ops.size) (hi : i ∈ Region.ready .any ops L) : Clo ops (L.setIfInBounds i true) := by
  intro j k hj hl hw
  by_cases hij : i = j
  · subst hij
    exact ⟨set_true (waits_listed hi hw), waits_lt hi hw hsz⟩
  · rw [getD_set_ne true hij] at hl
    have := h j k hj hl hw
    exact ⟨set_true this.1, this.2⟩
theorem reach_listed {ops : Array Oper} {L : Array Bool} (h : Clo ops L) : ∀ (m : Nat) (acc : List Nat), (∀ j ∈ acc, L.getD j true = true ∧ j < ops.size) → ∀ j ∈ reachL ops m acc, L.getD j true = true ∧ j < ops.size
  | 0, acc, ha => ha
  | m + 1, acc, ha => by
    unfold reachL
    refine reach_listed h m _ ?_
    split
    · rename_i hany
      obtain ⟨j, hj, hw⟩ := List.any_eq_true.1 hany
      intro x hx
      rcases List.mem_cons.1 hx with rfl | hx
      · exact h j x (ha j hj).2 (ha j hj).1 hw
      · exact ha x hx
    · exact ha
theorem waitsT_listed {ops : Array Oper} {L : Array Bool} {k s : Nat} (h : Clo ops L) (hs : s < ops.size) (hl : L.getD s true = true) (hw : waitsT ops k s = true) : L.getD k true = true := by
  unfold waitsT at hw
  exact (reach_listed h s [s] (fun j hj => by rw [List.mem_singleton.1 hj]; exact ⟨hl, hs⟩) k (by simpa using hw)).1
def dOf (ops : Array Oper) (E : Bool → World → Prop) (s : Nat) : Array Bool → World → Prop := fun L w => (L.size = ops.size ∧ Clo ops L) ∧ E (L.getD s true) w
/-- The walk: plain operations yield one value, and leave a world of the same side; operation s turns the world; what s waits for comes up ahead of it. -/
def lexS (P : Program) (ops : Array Oper) (E : Bool → World → Prop) (s : Nat) (Q : Act → Prop) : List Oper → Nat → Act → Prop
  | [], _, a => Q a
  | o :: l, k, a => if Region.wanted o (yielded ops a.tmps) then (if k = s then ∃ v, (∀ w, E false w → does P o a (E true) w v) ∧ lexS P ops E s Q l (k + 1) (a.put o.dst v)
      else ∃ v, (∀ x : Two E, (waitsT ops k s = true → x.b = false) → does P o a (E x.b) x.w v) ∧ lexS P ops E s Q l (k + 1) (a.put o.dst v)) else k ≠ s ∧ lexS P ops E s Q l (k + 1) (a.put o.dst undef)
theorem lexS_M (hss : s < ops.size) {Q : Act → Prop} : ∀ (l : List Oper) (k : Nat) (a : Act), (∀ j, l[j]? = ops[k + j]?) → lexS P ops E s Q l k a → lexM P ops (dOf ops E s) Q l k a
  | [], _, _, _, h => h
  | o :: l, k, a, hl, h => by
    have ih := fun a => lexS_M hss (Q := Q) l (k + 1) a
    have hl2 : ∀ j, l[j]? = ops[k + 1 + j]? := fun j => by have := hl (j + 1); simpa [Nat.add_assoc, Nat.add_comm 1 j] using this
    have plain : ∀ {L : Array Bool} {w : World}, k ≠ s → k ∈ Region.ready .any ops L → dOf ops E s L w → dOf ops E s (L.setIfInBounds k true) = E (L.getD s true) := fun {L w} hk hr hD => by
      funext w'
      apply propext
      unfold dOf
      rw [getD_set_ne true hk]
      exact ⟨fun h => h.2, fun h => ⟨⟨by simpa using hD.1.1, hD.1.2.set hD.1.1 hr⟩, h⟩⟩
    unfold lexS at h
    unfold lexM
    split at h
    · rename_i hw
      split at h
      · rename_i hk
        obtain ⟨v, h1, h2⟩ := h
        refine ⟨v, fun L w hr hD => .inl ⟨hw, ?_⟩, ih _ hl2 h2⟩
        have e : L.getD s true = false := by rw [← hk]; exact (mem_ready.1 hr).1
        have hD2 := hD.2
        rw [e] at hD2
        have e3 : dOf ops E s (L.setIfInBounds k true) = E true := by
          funext w'
          apply propext
          unfold dOf
          rw [hk, getD_set_self]
          exact ⟨fun h => h.2, fun h => ⟨⟨by simpa using hD.1.1, hD.1.2.set hD.1.1 (by rw [← hk]; exact hr)⟩, h⟩⟩
        rw [e3]
        exact h1 w hD2
      · rename_i hk
        obtain ⟨v, h1, h2⟩ := h
        refine ⟨v, fun L w hr hD => .inl ⟨hw, ?_⟩, ih _ hl2 h2⟩
        rw [plain hk hr hD]
        refine h1 ⟨_, w, hD.2⟩ (fun hwt => ?_)
        show L.getD s true = false
        cases hs : L.getD s true with
        | false => rfl
        | true =>
          have h3 := waitsT_listed hD.1.2 hss hs hwt
          rw [(mem_ready.1 hr).1] at h3
          cases h3
    · rename_i hw
      obtain ⟨hk, h2⟩ := h
      refine ⟨undef, fun L w hr hD => .inr ⟨by simpa using hw, rfl, ?_⟩, ih _ hl2 h2⟩
      rw [plain hk hr hD]
      exact hD.2
theorem lexS_mono {Q Q' : Act → Prop} (hQ : ∀ a, Q a → Q' a) : ∀ (l : List Oper) (k : Nat) (a : Act), lexS P ops E s Q l k a → lexS P ops E s Q' l k a
  | [], _, _, h => hQ _ h
  | o :: l, k, a, h => by
    have ih := fun a => lexS_mono hQ l (k + 1) a
    unfold lexS at h ⊢
    split at h
    · rename_i hw
      rw [if_pos hw]
      split at h
      · rename_i hk
        rw [if_pos hk]
        obtain ⟨v, h1, h2⟩ := h
        exact ⟨v, h1, ih _ h2⟩
      · rename_i hk
        rw [if_neg hk]
        obtain ⟨v, h1, h2⟩ := h
        exact ⟨v, h1, ih _ h2⟩
    · rename_i hw
      rw [if_neg hw]
      exact ⟨h.1, ih _ h.2⟩
theorem wp_region_two {id : Nat} {Q : Exit → Act → World → Prop} {a : Act} {w : World} {l : List Oper} (E : Bool → World → Prop) (s : Nat) (hs : s < l.length) (hm : P.follows .mixedOrders = true) (hB : Region.lexB .any l.toArray = true) (hE : E false w.drew)
    (h : lexS P l.toArray E s (fun a' => ∀ w', E true w' → Q .normal a' w') l 0 a) : (Code.region id l.toArray true).wp P Q a w := by
  refine wp_region_lexM (D := dOf l.toArray E s) hm hB ?_ (lexS_M (by simpa using hs) _ _ _ (by simp) ?_)
  · have : (Array.replicate l.toArray.size false).getD s true = false := by simp [hs]
    unfold dOf
    rw [this]
    refine ⟨⟨by simp, fun j k hj hl => ?_⟩, hE⟩
    simp at hj
    simp [hj] at hl
  · refine lexS_mono (fun a' h L w' hL hD => ?_) _ _ _ h
    refine h w' ?_
    have := hD.2
    rwa [hL s (by simpa using hs)] at this
theorem lexS_skip {Q : Act → Prop} {o : Oper} {l : List Oper} {k : Nat} {a : Act} (hw : Region.wanted o (yielded ops a.tmps) = false) (hk : k ≠ s) (h : lexS P ops E s Q l (k + 1) (a.put o.dst undef)) : lexS P ops E s Q (o :: l) k a := by
  unfold lexS
  rw [if_neg (by rw [hw]; decide)]
  exact ⟨hk, h⟩
theorem lexS_plain {Q : Act → Prop} {o : Oper} {l : List Oper} {k : Nat} {a : Act} (hw : Region.wanted o (yielded ops a.tmps) = true) (hk : k ≠ s) (v : Value) (h1 : ∀ x : Two E, does P o a (E x.b) x.w v) (h : lexS P ops E s Q l (k + 1) (a.put o.dst v)) : lexS P ops E s Q (o :: l) k a := by
  unfold lexS
  rw [if_pos hw, if_neg hk]
  exact ⟨v, fun x _ => h1 x, h⟩
/-- Worlds ahead of the turn. -/
structure One (E : World → Prop) where
  w : World
  h : E w
theorem lexS_early {Q : Act → Prop} {o : Oper} {l : List Oper} {k : Nat} {a : Act} (hw : Region.wanted o (yielded ops a.tmps) = true) (hk : k ≠ s) (hs : waitsT ops k s = true) (v : Value) (h1 : ∀ x : One (E false), does P o a (E false) x.w v) (h : lexS P ops E s Q l (k + 1) (a.put o.dst v)) : lexS P ops E s Q (o :: l) k a := by
  unfold lexS
  rw [if_pos hw, if_neg hk]
  refine ⟨v, fun x hx => ?_, h⟩
  have hb := hx hs
  obtain ⟨b, w, hE⟩ := x
  simp only at hb
  subst hb
  exact h1 ⟨w, hE⟩
theorem lexS_turn {Q : Act → Prop} {o : Oper} {l : List Oper} {k : Nat} {a : Act} (hw : Region.wanted o (yielded ops a.tmps) = true) (hk : k = s) (v : Value) (h1 : ∀ w, E false w → does P o a (E true) w v) (h : lexS P ops E s Q l (k + 1) (a.put o.dst v)) : lexS P ops E s Q (o :: l) k a := by
  unfold lexS
  rw [if_pos hw, if_pos hk]
  exact ⟨v, h1, h⟩
theorem does_look {o : Oper} {a : Act} {E' : World → Prop} {w : World} (mo ko : Operand) {t : TypeId} {ok : Bool} {v : Value} (h : o.op = .lookup t mo ko ok) (hE : E' w) (hl : (Instr.lookup t (a.eval mo) (a.eval ko) ok).run P w = .ok v w) : does P o a E' w v := by
  unfold does execOp
  rw [h]
  simp only [Functor.map, Sem.run_bind, Sem.run_map, hl, Result.andThen_ok]
  exact ⟨hE, rfl⟩
theorem xv_no {P : Program} {s : Sem Value} {w w' : World} {n : Next} (h : ((do pure (Next.value (← s))) : Sem Next).run P w = .ok n w') : ∃ v, n = .value v := by
  rw [Sem.run_bind] at h
  generalize s.run P w = r at h
  cases r with
  | ok v w1 => exact ⟨v, by cases h; rfl⟩
  | halt x w1 => cases h
/-- Operations that are no calls. -/
def plainOp : Op → Bool
  | .move _ => true
  | .assign _ => true
  | .pick .. => true
  | .load .. => true
  | .fieldAddr .. => true
  | .binOp .. => true
  | .unOp .. => true
  | .extract .. => true
  | .build .. => true
  | .buildSlice .. => true
  | .lookup .. => true
  | .convert .. => true
  | .indexAddr .. => true
  | .field .. => true
  | .index .. => true
  | .nilCheck .. => true
  | _ => false
theorem plain_value {P : Program} {ρ : Operand → Value} {o : Oper} (hp : plainOp o.op = true) {w w' : World} {n : Next} (h : (execOp ρ o).run P w = .ok n w') : ∃ v, n = .value v := by
  unfold execOp at h
  generalize o.op = op at hp h
  cases op <;> first | (cases hp; done) | exact xv_no h | (simp only [Sem.run_pure, Result.ok.injEq] at h; exact ⟨_, h.1.symm⟩) | skip
  · rename_i c a b
    exact xv_no (s := do pure (if ← asBool (ρ c) then ρ a else ρ b)) (by simpa using h)
  · rename_i x
    simp only at h
    split at h <;> first | (cases h; done) | (simp only [Sem.run_pure, Result.ok.injEq] at h; exact ⟨_, h.1.symm⟩) | skip
    split at h <;> first | (cases h; done) | (simp only [Sem.run_pure, Result.ok.injEq] at h; exact ⟨_, h.1.symm⟩) | skip
    simp only [Sem.run_bind] at h
    generalize (program.run P w) = r at h
    cases r with
    | halt x w1 => cases h
    | ok p w1 =>
      simp only [Result.andThen_ok] at h
      generalize (nilAhead _ _ _ _).run P w1 = r at h
      cases r with
      | halt x w1 => cases h
      | ok q w2 =>
        simp only [Result.andThen_ok] at h
        split at h
        · cases h
        · simp only [Sem.run_pure, Sem.run_bind, Result.andThen_ok, Result.ok.injEq] at h
          exact ⟨_, h.1.symm⟩
/-- A plain operation, by the kit's word for what only reads. -/
theorem lexS_want {Q : Act → Prop} {o : Oper} {l : List Oper} {k : Nat} {a : Act} (hw : Region.wanted o (yielded ops a.tmps) = true) (hk : k ≠ s) (hp : plainOp o.op = true)
    (h : ∀ K : Act → Prop, (∀ a, lexS P ops E s Q l (k + 1) a → K a) → o.quiet P a (fun w => ∃ x : Two E, w = x.w) K) : lexS P ops E s Q (o :: l) k a := by
  obtain ⟨v, h1, h2⟩ := h _ (fun _ h => h)
  refine lexS_plain hw hk v (fun x => ?_) h2
  have h3 := h1 x.w ⟨x, rfl⟩
  unfold Oper.quietAt at h3
  unfold does
  generalize hr : (execOp a.eval o).run P x.w = r at *
  cases r with
  | halt y w' => exact h3.elim
  | ok n w' =>
    obtain ⟨u, rfl⟩ := plain_value hp hr
    obtain ⟨rfl, rfl⟩ := h3
    exact ⟨x.h, rfl⟩
/-- A plain operation that the turn waits for. -/
theorem lexS_ewant {Q : Act → Prop} {o : Oper} {l : List Oper} {k : Nat} {a : Act} (hw : Region.wanted o (yielded ops a.tmps) = true) (hk : k ≠ s) (hs : waitsT ops k s = true) (hp : plainOp o.op = true)
    (h : ∀ K : Act → Prop, (∀ a, lexS P ops E s Q l (k + 1) a → K a) → o.quiet P a (fun w => ∃ x : One (E false), w = x.w) K) : lexS P ops E s Q (o :: l) k a := by
  obtain ⟨v, h1, h2⟩ := h _ (fun _ h => h)
  refine lexS_early hw hk hs v (fun x => ?_) h2
  have h3 := h1 x.w ⟨x, rfl⟩
  unfold Oper.quietAt at h3
  unfold does
  generalize hr : (execOp a.eval o).run P x.w = r at *
  cases r with
  | halt y w' => exact h3.elim
  | ok n w' =>
    obtain ⟨u, rfl⟩ := plain_value hp hr
    obtain ⟨rfl, rfl⟩ := h3
    exact ⟨x.h, rfl⟩
/-- A call that the turn waits for. -/
theorem lexS_ecall {Q : Act → Prop} {o : Oper} {l : List Oper} {k : Nat} {a : Act} (hw : Region.wanted o (yielded ops a.tmps) = true) (hk : k ≠ s) (hs : waitsT ops k s = true) {f : FuncId} {args : Array Value} {v : Value} (ho : ∀ w, (execOp a.eval o).run P w = .ok (.enter f args) w)
    (hc : ∀ x : One (E false), Calls P f args x.w fun e w' => e = .returned v ∧ E false w') (h : lexS P ops E s Q l (k + 1) (a.put o.dst v)) : lexS P ops E s Q (o :: l) k a := by
  refine lexS_early hw hk hs v (fun x => ?_) h
  unfold does
  rw [ho]
  exact hc x
/-- A call that leaves a world of the same side. -/
theorem lexS_call {Q : Act → Prop} {o : Oper} {l : List Oper} {k : Nat} {a : Act} (hw : Region.wanted o (yielded ops a.tmps) = true) (hk : k ≠ s) {f : FuncId} {args : Array Value} {v : Value} (ho : ∀ w, (execOp a.eval o).run P w = .ok (.enter f args) w)
    (hc : ∀ x : Two E, Calls P f args x.w fun e w' => e = .returned v ∧ E x.b w') (h : lexS P ops E s Q l (k + 1) (a.put o.dst v)) : lexS P ops E s Q (o :: l) k a := by
  refine lexS_plain hw hk v (fun x => ?_) h
  unfold does
  rw [ho]
  exact hc x
/-- The call that turns the world. -/
theorem lexS_callT {Q : Act → Prop} {o : Oper} {l : List Oper} {k : Nat} {a : Act} (hw : Region.wanted o (yielded ops a.tmps) = true) (hk : k = s) {f : FuncId} {args : Array Value} {v : Value} (ho : ∀ w, (execOp a.eval o).run P w = .ok (.enter f args) w)
    (hc : ∀ w, E false w → Calls P f args w fun e w' => e = .returned v ∧ E true w') (h : lexS P ops E s Q l (k + 1) (a.put o.dst v)) : lexS P ops E s Q (o :: l) k a := by
  refine lexS_turn hw hk v (fun w hE => ?_) h
  unfold does
  rw [ho]
  exact hc w hE
end
end Go.Mv
namespace Go.Mv
open Go.RowKit
set_option linter.unusedVariables false
set_option linter.unusedSimpArgs false
/-- w' is w but for the blocks of S, and blocks that are new. -/
structure Tch (S : Nat → Prop) (w w' : World) : Prop where
  os : w'.os = w.os
  tape : w'.tape = w.tape
  output : w'.output = w.output
  size : w.heap.size ≤ w'.heap.size
  block : ∀ j, j < w.heap.size → ¬ S j → w'.heap[j]? = w.heap[j]?
section
variable {S S' : Nat → Prop} {w w' w'' : World}
theorem Tch.refl (S : Nat → Prop) (w : World) : Tch S w w := ⟨rfl, rfl, rfl, Nat.le_refl _, fun _ _ _ => rfl⟩
theorem Tch.trans (h : Tch S w w') (h2 : Tch S w' w'') : Tch S w w'' :=
  ⟨h2.os.trans h.os, h2.tape.trans h.tape, h2.output.trans h.output, Nat.le_trans h.size h2.size, fun j hj hs => (h2.block j (Nat.lt_of_lt_of_le hj h.size) hs).trans (h.block j hj hs)⟩
/-- The second one may touch what the first one has made. -/
theorem Tch.trans' (h : Tch S w w') (h2 : Tch S' w' w'') (hs : ∀ j, j < w.heap.size → S' j → S j) : Tch S w w'' :=
  ⟨h2.os.trans h.os, h2.tape.trans h.tape, h2.output.trans h.output, Nat.le_trans h.size h2.size, fun j hj hn => (h2.block j (Nat.lt_of_lt_of_le hj h.size) (fun x => hn (hs j hj x))).trans (h.block j hj hn)⟩
theorem Tch.mono (h : Tch S w w') (hs : ∀ j, S j → S' j) : Tch S' w w' := ⟨h.os, h.tape, h.output, h.size, fun j hj hn => h.block j hj (fun x => hn (hs j x))⟩
theorem Tch.of_below (h : Below w.heap.size w w') : Tch S w w' := ⟨h.os, h.tape, h.output, h.size, fun j hj _ => h.block j hj⟩
theorem Tch.below (h : Tch S w w') {n : Nat} (hn : n ≤ w.heap.size) (hs : ∀ j, S j → n ≤ j) : Below n w w' :=
  ⟨h.os, h.tape, h.output, h.size, fun j hj => h.block j (by omega) (fun x => by have := hs j x; omega)⟩
theorem Tch.drew (h : Tch S w w') : Tch S w w'.drew := ⟨h.os, h.tape, h.output, h.size, h.block⟩
theorem Tch.alloc (h : Tch S w w') (o : Obj) : Tch S w (w'.alloc o) :=
  ⟨h.os, h.tape, h.output, by show w.heap.size ≤ (w'.heap.push o).size; rw [Array.size_push]; exact Nat.le_succ_of_le h.size, fun j hj hn => (Below.heap_alloc _ _ _ (Nat.lt_of_lt_of_le hj h.size)).trans (h.block j hj hn)⟩
theorem Tch.setCell (h : Tch S w w') {a : Addr} (v : Value) (ha : S a.block ∨ w.heap.size ≤ a.block) : Tch S w (w'.setCell a v) := by
  refine ⟨h.os, h.tape, h.output, by simpa [World.setCell] using h.size, fun j hj hn => ?_⟩
  rw [Below.heap_setCell _ _ _ _ (fun e => by subst e; rcases ha with ha | ha; exact hn ha; omega)]
  exact h.block j hj hn
theorem Tch.put (h : Tch S w w') {r : Nat} (o : Obj) (hr : S r ∨ w.heap.size ≤ r) : Tch S w { w' with heap := w'.heap.setIfInBounds r o } := by
  refine ⟨h.os, h.tape, h.output, by simpa using h.size, fun j hj hn => ?_⟩
  show (w'.heap.setIfInBounds r o)[j]? = _
  rw [Array.getElem?_setIfInBounds_ne (fun e => by subst e; rcases hr with hr | hr; exact hn hr; omega)]
  exact h.block j hj hn
theorem Tch.at (h : Tch S w w') {r : Nat} {o : Obj} (ho : w.heap[r]? = some o) (hs : ¬ S r) : w'.heap[r]? = some o := (h.block r (Array.getElem?_eq_some_iff.1 ho).1 hs).trans ho
end
open Classical in
/-- What lies at a key. -/
noncomputable def valAt : List MapEntry → Value → Option Value
  | [], _ => none
  | e :: es, k => if e.key = k then some e.val else valAt es k
theorem valAt_none {k : Value} : ∀ {es : List MapEntry}, valAt es k = none ↔ ∀ e ∈ es, e.key ≠ k
  | [] => by simp [valAt]
  | e :: es => by
    have ih := valAt_none (k := k) (es := es)
    unfold valAt
    by_cases h : e.key = k
    · simp [h]
    · simp [h, ih]
theorem valAt_snoc {e : MapEntry} {k : Value} : ∀ {es : List MapEntry}, valAt es e.key = none → valAt (es ++ [e]) k = (open Classical in if e.key = k then some e.val else valAt es k)
  | [], _ => by simp [valAt]
  | x :: es, h => by
    unfold valAt at h
    by_cases hx : x.key = e.key
    · rw [if_pos hx] at h; cases h
    · rw [if_neg hx] at h
      have ih := valAt_snoc (e := e) (k := k) h
      show valAt (x :: (es ++ [e])) k = _
      unfold valAt
      rw [ih]
      by_cases h1 : x.key = k
      · rw [if_pos h1, if_pos h1, if_neg (fun q => hx (h1.trans q.symm))]
      · rw [if_neg h1, if_neg h1]
def NoTwice (es : List MapEntry) : Prop := es.Pairwise fun x y => x.key ≠ y.key
theorem valAt_modify {v : Value} {k : Value} : ∀ {es : List MapEntry} {i : Nat} {e : MapEntry}, NoTwice es → es[i]? = some e → ∀ {g : MapEntry → MapEntry}, (g e).key = e.key → (g e).val = v → valAt (es.modify i g) k = (open Classical in if e.key = k then some v else valAt es k)
  | [], i, e, hn, hi, g, hg, hv => by simp at hi
  | x :: es, 0, e, hn, hi, g, hg, hv => by
    simp only [List.getElem?_cons_zero, Option.some.injEq] at hi
    subst hi
    show valAt (g x :: es) k = _
    unfold valAt
    rw [hg, hv]
    by_cases h : x.key = k
    · rw [if_pos h, if_pos h]
    · rw [if_neg h, if_neg h, if_neg h]
  | x :: es, i + 1, e, hn, hi, g, hg, hv => by
    have hn' := List.pairwise_cons.1 hn
    rw [List.getElem?_cons_succ] at hi
    have hne := hn'.1 e (List.mem_of_getElem? hi)
    have ih := valAt_modify (k := k) hn'.2 hi hg hv
    show valAt (x :: es.modify i g) k = _
    unfold valAt
    rw [ih]
    by_cases h : x.key = k
    · rw [if_pos h, if_pos h, if_neg (fun q => hne (h.trans q.symm))]
    · rw [if_neg h, if_neg h]
theorem valAt_erase {k : Value} : ∀ {es : List MapEntry} {i : Nat} {e : MapEntry}, NoTwice es → es[i]? = some e → valAt (es.eraseIdx i) k = (open Classical in if e.key = k then none else valAt es k)
  | [], i, e, hn, hi => by simp at hi
  | x :: es, 0, e, hn, hi => by
    simp only [List.getElem?_cons_zero, Option.some.injEq] at hi
    subst hi
    have hn' := List.pairwise_cons.1 hn
    show valAt es k = _
    by_cases h : x.key = k
    · rw [if_pos h]
      exact valAt_none.2 fun y hy q => hn'.1 y hy (h.trans q.symm)
    · rw [if_neg h]
      conv => rhs; unfold valAt
      rw [if_neg h]
  | x :: es, i + 1, e, hn, hi => by
    have hn' := List.pairwise_cons.1 hn
    rw [List.getElem?_cons_succ] at hi
    have hne := hn'.1 e (List.mem_of_getElem? hi)
    have ih := valAt_erase (k := k) hn'.2 hi
    show valAt (x :: es.eraseIdx i) k = _
    unfold valAt
    rw [ih]
    by_cases h : x.key = k
    · rw [if_pos h, if_pos h, if_neg (fun q => hne (h.trans q.symm))]
    · rw [if_neg h, if_neg h]
theorem keys_modify {es : List MapEntry} {i : Nat} {e : MapEntry} (hi : es[i]? = some e) {g : MapEntry → MapEntry} (hg : (g e).key = e.key) : (es.modify i g).map (·.key) = es.map (·.key) := by
  apply List.ext_getElem?
  intro j
  simp only [List.getElem?_map, List.getElem?_modify]
  by_cases h : i = j
  · subst h
    simp [hi, hg]
  · cases hj : es[j]? <;> simp [h]
theorem borns_modify {es : List MapEntry} {i : Nat} {g : MapEntry → MapEntry} (hg : ∀ e, (g e).born = e.born) : (es.modify i g).map (·.born) = es.map (·.born) := by
  apply List.ext_getElem?
  intro j
  simp only [List.getElem?_map, List.getElem?_modify]
  cases hj : es[j]? with
  | none => simp
  | some x => by_cases h : i = j <;> simp [h, hg]
theorem noTwice_map {es es' : List MapEntry} (h : es'.map (·.key) = es.map (·.key)) (hn : NoTwice es) : NoTwice es' := by
  have h1 : (es.map (·.key)).Pairwise (· ≠ ·) := List.pairwise_map.2 hn
  rw [← h] at h1
  exact List.pairwise_map.1 h1
/-- Entries that tell f. -/
structure Tells {α : Type} (K : α → Value) (es : List MapEntry) (c : Nat) (f : α → Option Value) (n : Nat) : Prop where
  key : ∀ e ∈ es, ∃ a, e.key = K a
  one : NoTwice es
  born : es.Pairwise fun x y => x.born ≠ y.born
  lt : ∀ e ∈ es, e.born < c
  val : ∀ a, valAt es (K a) = f a
  len : es.length = n
/-- Block r is a map that holds f, n entries in all. -/
def MapIs {α : Type} (K : α → Value) (w : World) (r : Nat) (f : α → Option Value) (n : Nat) : Prop := ∃ es c, w.heap[r]? = some (.map es c) ∧ Tells K es.toList c f n
open Classical in
noncomputable def fset {α β : Type} (f : α → β) (a : α) (b : β) : α → β := fun x => if x = a then b else f x
theorem fset_same {α β : Type} (f : α → β) (a : α) (b : β) : fset f a b a = b := if_pos rfl
theorem fset_ne {α β : Type} (f : α → β) {a x : α} (b : β) (h : x ≠ a) : fset f a b x = f x := if_neg h
section
variable {α : Type} {K : α → Value} {es : List MapEntry} {c n : Nat} {f : α → Option Value}
theorem Tells.push (h : Tells K es c f n) (hK : ∀ a b, K a = K b → a = b) {a : α} (ha : f a = none) (v : Value) : Tells K (es ++ [{ key := K a, val := v, born := c }]) (c + 1) (fset f a (some v)) (n + 1) := by
  have hv : valAt es (K a) = none := (h.val a).trans ha
  refine ⟨?_, ?_, ?_, ?_, ?_, by simp [h.len]⟩
  · intro e he
    rcases List.mem_append.1 he with he | he
    · exact h.key e he
    · rw [List.mem_singleton.1 he]; exact ⟨a, rfl⟩
  · refine List.pairwise_append.2 ⟨h.one, List.pairwise_singleton _ _, ?_⟩
    intro x hx y hy
    rw [List.mem_singleton.1 hy]
    exact valAt_none.1 hv x hx
  · refine List.pairwise_append.2 ⟨h.born, List.pairwise_singleton _ _, ?_⟩
    intro x hx y hy
    rw [List.mem_singleton.1 hy]
    have := h.lt x hx
    show x.born ≠ c
    omega
  · intro e he
    rcases List.mem_append.1 he with he | he
    · have := h.lt e he; omega
    · rw [List.mem_singleton.1 he]; exact Nat.lt_succ_self c
  · intro b
    rw [valAt_snoc (e := { key := K a, val := v, born := c }) hv]
    by_cases hb : b = a
    · subst hb; rw [if_pos rfl, fset_same]
    · rw [if_neg (fun q => hb (hK _ _ q).symm), fset_ne _ _ hb, h.val]
theorem Tells.mod (h : Tells K es c f n) (hK : ∀ a b, K a = K b → a = b) {a : α} {i : Nat} {e : MapEntry} (hi : es[i]? = some e) (he : e.key = K a) {g : MapEntry → MapEntry} {v : Value} (hg1 : (g e).key = e.key) (hg2 : (g e).val = v) (hg3 : ∀ e, (g e).born = e.born) : Tells K (es.modify i g) c (fset f a (some v)) n := by
  have hk := keys_modify hi hg1
  have hb := borns_modify (es := es) (i := i) hg3
  have hmem : ∀ x ∈ es.modify i g, ∃ y ∈ es, x.key = y.key ∧ x.born = y.born := by
    intro x hx
    obtain ⟨j, hj⟩ := List.mem_iff_getElem?.1 hx
    rw [List.getElem?_modify] at hj
    cases hy : es[j]? with
    | none => rw [hy] at hj; simp at hj
    | some y =>
      rw [hy] at hj
      refine ⟨y, List.mem_of_getElem? hy, ?_⟩
      by_cases hij : i = j
      · subst hij
        rw [hi] at hy
        cases hy
        simp at hj
        subst hj
        exact ⟨hg1, hg3 _⟩
      · simp [hij] at hj
        subst hj
        exact ⟨rfl, rfl⟩
  refine ⟨?_, noTwice_map hk h.one, ?_, ?_, ?_, by rw [List.length_modify]; exact h.len⟩
  · intro x hx
    obtain ⟨y, hy, h1, _⟩ := hmem x hx
    rw [h1]; exact h.key y hy
  · have h1 : (es.map (·.born)).Pairwise (· ≠ ·) := List.pairwise_map.2 h.born
    rw [← hb] at h1
    exact List.pairwise_map.1 h1
  · intro x hx
    obtain ⟨y, hy, _, h1⟩ := hmem x hx
    rw [h1]; exact h.lt y hy
  · intro b
    rw [valAt_modify h.one hi hg1 hg2, he]
    by_cases hb : b = a
    · subst hb; rw [if_pos rfl, fset_same]
    · rw [if_neg (fun q => hb (hK _ _ q).symm), fset_ne _ _ hb, h.val]
theorem Tells.del (h : Tells K es c f n) (hK : ∀ a b, K a = K b → a = b) {a : α} {i : Nat} {e : MapEntry} (hi : es[i]? = some e) (he : e.key = K a) : Tells K (es.eraseIdx i) c (fset f a none) (n - 1) := by
  have hlt := (List.getElem?_eq_some_iff.1 hi).1
  have hsub := List.eraseIdx_sublist es i
  refine ⟨fun x hx => h.key x (hsub.subset hx), h.one.sublist hsub, h.born.sublist hsub, fun x hx => h.lt x (hsub.subset hx), ?_, by rw [List.length_eraseIdx_of_lt hlt, h.len]⟩
  intro b
  rw [valAt_erase h.one hi, he]
  by_cases hb : b = a
  · subst hb; rw [if_pos rfl, fset_same]
  · rw [if_neg (fun q => hb (hK _ _ q).symm), fset_ne _ _ hb, h.val]
/-- Where a key lies, and what is there. -/
def Finds (K : α → Value) (es : List MapEntry) (a : α) : Option (Nat × Value) → Prop
  | some (i, v) => ∃ e, es[i]? = some e ∧ e.key = K a ∧ e.val = v
  | none => valAt es (K a) = none
theorem Tells.finds (h : Tells K es c f n) {a : α} {q : Option (Nat × Value)} (hq : Finds K es a q) : q.map Prod.snd = f a := by
  rw [← h.val]
  cases q with
  | none => exact hq.symm
  | some q =>
    obtain ⟨i, v⟩ := q
    obtain ⟨e, h1, h2, h3⟩ := hq
    have := valAt_modify (v := v) (k := K a) h.one h1 (g := id) rfl h3
    rw [h2, if_pos rfl, List.modify_id] at this
    exact this.symm
theorem mapIs_new (w : World) : MapIs K (w.alloc (.map #[] 0)) w.heap.size (fun _ => none) 0 := by
  refine ⟨#[], 0, ?_, ⟨by simp, List.Pairwise.nil, List.Pairwise.nil, by simp, fun a => rfl, rfl⟩⟩
  show (w.heap.push _)[w.heap.size]? = _
  simp
theorem MapIs.at {w w' : World} {r : Nat} {f : α → Option Value} {n : Nat} (h : MapIs K w r f n) (hb : w'.heap[r]? = w.heap[r]?) : MapIs K w' r f n := by
  obtain ⟨es, c, h1, h2⟩ := h
  exact ⟨es, c, hb.trans h1, h2⟩
theorem MapIs.lt {w : World} {r : Nat} {f : α → Option Value} {n : Nat} (h : MapIs K w r f n) : r < w.heap.size := by
  obtain ⟨es, c, h1, h2⟩ := h
  exact (Array.getElem?_eq_some_iff.1 h1).1
theorem MapIs.tch {w w' : World} {r : Nat} {f : α → Option Value} {n : Nat} {S : Nat → Prop} (h : MapIs K w r f n) (hb : Tch S w w') (hs : ¬ S r) : MapIs K w' r f n := h.at (hb.block r h.lt hs)
theorem MapIs.ne {w : World} {r b : Nat} {f : α → Option Value} {n : Nat} {cs : Array Value} {T : TypeId} (h : MapIs K w r f n) (hb : w.heap[b]? = some (.cells cs T (0, 0))) : r ≠ b := by
  rintro rfl
  obtain ⟨es, c, h1, h2⟩ := h
  rw [h1] at hb
  cases hb
end
end Go.Mv
