/- Regions as an entry of the book. No conditions beyond those that each statement shows. -/
import Derived.Test.YtkndlfdpmpdihaaGreatDoorE2
import Derived.Test.YtkndlfdpmpdihaaGreatDoorS1
import Derived.Test.YtkndlfdpmpdihaaGreatDoorE4
namespace Go.Proofs.YtkndlfdpmpdihaaGreatDoor
open Go.RowKit Go.Ev
set_option linter.unusedVariables false
set_option linter.unusedSimpArgs false

def keyRg (v : Value) : Option (Int × Int) := match v with
  | .agg ⟨[.int .u32 a, .int .u32 b]⟩ => some (a, b)
  | _ => none
def kkRg (e : MapEntry) : Int × Int := (keyRg e.key).getD (0, 0)
def insRg (x : Int × Int) : List (Int × Int) → List (Int × Int)
  | [] => [x]
  | y :: l => match decide (x.1 < y.1) with | true => x :: y :: l | false => y :: insRg x l
def srtRg : List (Int × Int) → List (Int × Int)
  | [] => []
  | x :: l => insRg x (srtRg l)
theorem insRg_perm (x : Int × Int) : ∀ l, (insRg x l).Perm (x :: l)
  | [] => List.Perm.refl _
  | y :: l => by
    unfold insRg
    split
    · exact List.Perm.refl _
    · exact ((insRg_perm x l).cons y).trans (List.Perm.swap x y l)
theorem srtRg_perm : ∀ l, (srtRg l).Perm l
  | [] => List.Perm.refl _
  | x :: l => (insRg_perm x _).trans ((srtRg_perm l).cons x)
def strictRg : List (Int × Int) → Bool
  | [] => true
  | x :: l => (match l with | [] => true | y :: _ => decide (x.1 < y.1)) && strictRg l
theorem strictRg_pw : ∀ l, strictRg l = true → l.Pairwise (fun a b => a.1 < b.1)
  | [], _ => List.Pairwise.nil
  | [x], _ => by simp
  | x :: y :: l, h => by
    unfold strictRg at h
    rw [Bool.and_eq_true, decide_eq_true_eq] at h
    have ih := strictRg_pw (y :: l) h.2
    rw [List.pairwise_cons]
    refine ⟨fun z hz => ?_, ih⟩
    rcases List.mem_cons.1 hz with rfl | hz
    · exact h.1
    · exact Int.lt_trans h.1 ((List.pairwise_cons.1 ih).1 z hz)
def nodupN : List Nat → Bool
  | [] => true
  | x :: l => (l.all fun y => !(Nat.beq x y)) && nodupN l
theorem nodupN_pw : ∀ l, nodupN l = true → l.Nodup
  | [], _ => List.Pairwise.nil
  | x :: l, h => by
    unfold nodupN at h
    rw [Bool.and_eq_true, List.all_eq_true] at h
    rw [List.nodup_cons]
    refine ⟨fun hx => ?_, nodupN_pw l h.2⟩
    have := h.1 x hx
    rw [Nat.beq_refl] at this
    cases this
def okRg (es : List MapEntry) (c : Nat) : Bool := (es.all fun e => (keyRg e.key).isSome && decide (e.born < c)) && (nodupN (es.map (·.born)) && (decide (es.length ≤ 12) && strictRg (srtRg (es.map kkRg))))

/-- Regions on the small world. -/
def regionsB : Ev := fun f args w => match Nat.beq f 135, args with
  | true, ⟨[.pointer (some ⟨b, 0, none⟩)]⟩ => match w.heap[b]? with
    | some (.cells ⟨.map (some m) :: _⟩ _ (0, 0)) => match w.heap[m]? with
        | some (.map es c) => match okRg es.toList c with
          | true => match srtRg (es.toList.map kkRg) with
            | [] => some (.slice none 0 0, w)
            | x :: l => match w with
              | ⟨⟨h⟩, t, d, os, u⟩ => forceNat h.length fun n => forceNat (l.length + 1) fun k => forceL (forceV 20) (regC (x :: l)) fun cs => Go.Ev.spine (h ++ [.cells ⟨cs⟩ 177 (4, 1)]) fun h =>
                some (.slice (some ⟨n, 0, none⟩) k k, ⟨⟨h⟩, t, d, os, u⟩)
          | false => none
        | _ => none
    | _ => none
  | _, _ => none

theorem ar_single {τ : Rel} {v : Value} {ys : Array Value} (h : AR τ ⟨[v]⟩ ys) : ∃ v', ys = #[v'] ∧ VR τ v v' := by
  have hs : ys.size = 1 := h.1.symm
  obtain ⟨v', rfl⟩ := Array.size_eq_one_iff.1 hs
  exact ⟨v', rfl, h.2 0 v v' rfl rfl⟩
theorem key_shape {k : Value} {a b : Int} (h : keyRg k = some (a, b)) : k = .agg #[U a, U b] := by
  unfold keyRg at h
  split at h
  · cases h; rfl
  · cases h
theorem key_vr {τ : Rel} {k k' : Value} {a b : Int} (h : keyRg k = some (a, b)) (hv : VR τ k k') : k' = k ∧ k = .agg #[U a, U b] := by
  unfold keyRg at h
  split at h
  · rename_i a' b'
    cases h
    cases hv with
    | agg xs ys hs hx =>
      obtain ⟨l⟩ := ys
      have hs2 : l.length = 2 := hs.symm
      match l, hs2, hx with
      | [y0, y1], _, hx =>
        have h0 := hx 0 (.int .u32 a) y0 rfl rfl
        have h1 := hx 1 (.int .u32 b) y1 rfl rfl
        cases h0; cases h1
        exact ⟨rfl, rfl⟩
  · cases h

theorem maps_keys {τ : Rel} {es fs : Array MapEntry} (h : ER τ es fs) (hk : ∀ e ∈ es.toList, (keyRg e.key).isSome = true) : es.toList.map (·.key) = fs.toList.map (·.key) ∧ es.toList.map (·.born) = fs.toList.map (·.born) := by
  have hl : es.toList.length = fs.toList.length := by simpa using h.1
  have key : ∀ i (h1 : i < es.toList.length) (h2 : i < fs.toList.length), es.toList[i].key = fs.toList[i].key ∧ es.toList[i].born = fs.toList[i].born := by
    intro i h1 h2
    have h1' : i < es.size := by simpa using h1
    have h2' : i < fs.size := by simpa using h2
    obtain ⟨k1, _, k2⟩ := h.2 i es[i] fs[i] (Array.getElem?_eq_getElem h1') (Array.getElem?_eq_getElem h2')
    have hsm := hk es.toList[i] (List.getElem_mem h1)
    simp only [Array.getElem_toList] at hsm ⊢
    obtain ⟨⟨a, b⟩, hab⟩ := Option.isSome_iff_exists.1 hsm
    exact ⟨(key_vr hab k1).1.symm, k2⟩
  constructor
  · refine List.ext_getElem (by simpa using hl) fun i h1 h2 => ?_
    rw [List.getElem_map, List.getElem_map]
    exact (key i (by simpa using h1) (by simpa using h2)).1
  · refine List.ext_getElem (by simpa using hl) fun i h1 h2 => ?_
    rw [List.getElem_map, List.getElem_map]
    exact (key i (by simpa using h1) (by simpa using h2)).2

theorem regionsB_ok {G : Gl} : EvOk Tryz.prog G regionsB := by
  intro f args wa v wa2 h B w0 τ args' wr hA hw
  unfold regionsB at h
  split at h
  · rename_i b hf
    have hf := Nat.eq_of_beq_eq_true hf
    subst hf
    obtain ⟨p', rfl, hp⟩ := ar_single hA
    split at h
    · rename_i m cr ct hb
      split at h
      · rename_i es c hm
        split at h
        · rename_i hok
          cases hp with
          | ptr _ r _ i ht =>
          obtain ⟨r1, i1, o1, ht1, hr1, hO1⟩ := hw.blk _ _ hb rfl
          obtain ⟨rfl, rfl⟩ := hw.fn _ _ _ _ _ ht ht1
          cases hO1 with
          | cells cs cs' e hcs =>
          obtain ⟨v0, hv0, hvr0⟩ := hcs.get (i := 0) (v := .map (some m)) rfl
          cases hvr0 with
          | map _ m' i2 ht2 =>
          obtain ⟨r3, i3, o3, ht3, hr3, hO3⟩ := hw.blk _ _ hm rfl
          obtain ⟨rfl, rfl⟩ := hw.fn _ _ _ _ _ ht2 ht3
          cases hO3 with
          | map _ fs _ hER =>
          unfold okRg at hok
          rw [Bool.and_eq_true, Bool.and_eq_true, Bool.and_eq_true, List.all_eq_true] at hok
          obtain ⟨k1, k2, k3, k4⟩ := hok
          have k1' : ∀ e ∈ es.toList, (keyRg e.key).isSome = true ∧ e.born < c := fun e he => by
            have := k1 e he
            rw [Bool.and_eq_true, decide_eq_true_eq] at this
            exact this
          obtain ⟨q1, q2⟩ := maps_keys hER (fun e he => (k1' e he).1)
          have hkeys : es.toList.map kkRg = fs.toList.map kkRg := by
            have : ∀ l : List MapEntry, l.map kkRg = (l.map (·.key)).map (fun k => (keyRg k).getD (0, 0)) := fun l => by rw [List.map_map]; rfl
            rw [this, this, q1]
          have hk : ∀ e ∈ fs.toList, e.key = .agg #[U (kkRg e).1, U (kkRg e).2] := by
            intro e he
            have hmem : e.key ∈ es.toList.map (·.key) := by rw [q1]; exact List.mem_map_of_mem he
            obtain ⟨e', he', hke⟩ := List.mem_map.1 hmem
            obtain ⟨⟨a, b⟩, hab⟩ := Option.isSome_iff_exists.1 (k1' e' he').1
            rw [hke] at hab
            have e1 := key_shape hab
            unfold kkRg
            rw [hab]
            exact e1
          have hold : ∀ e ∈ fs.toList, e.born < c := by
            intro e he
            have hmem : e.born ∈ es.toList.map (·.born) := by rw [q2]; exact List.mem_map_of_mem he
            obtain ⟨e', he', hke⟩ := List.mem_map.1 hmem
            rw [← hke]; exact (k1' e' he').2
          have hn : (fs.toList.map (·.born)).Nodup := by rw [← q2]; exact nodupN_pw _ k2
          have h12 : fs.size ≤ 12 := by
            rw [decide_eq_true_eq] at k3
            rw [← hER.1]; simpa using k3
          have hcell : wr.cell? ⟨r, 0, none⟩ = some (.map (some m')) := by
            have : cs'[0]? = some (Value.map (some m')) := hv0
            simp [World.cell?, hr1, this]
          have hL : (srtRg (es.toList.map kkRg)).Perm (fs.toList.map kkRg) := by rw [← hkeys]; exact srtRg_perm _
          have hcon := regions_walk wr r m' c fs kkRg hcell hr3 hk hold hn h12 _ hL (strictRg_pw _ k4)
          refine Calls.mono hcon ?_
          rintro e w' ⟨u, rfl, hown, hbel, hnil⟩
          have hW := hw.belowed hbel
          split at h
          · rename_i hs
            cases h
            rw [hs] at hnil
            rw [hnil rfl]
            exact ⟨τ, _, rfl, Rel.le.refl _, .sl0 0 0, hW⟩
          · rename_i x l hs
            obtain ⟨hh, t, d, os, uu⟩ := wa
            obtain ⟨hh⟩ := hh
            simp only [forceNat_eq, forceL_eq _ (forceV_eq 20), Go.Ev.spine_eq, Option.some.injEq, Prod.mk.injEq] at h
            obtain ⟨rfl, rfl⟩ := h
            rw [hs] at hown
            obtain ⟨ol, ⟨_, o0⟩ | ⟨g, cap, cur, rfl, hge, hg, hcap, hmax, hcsz, htk⟩⟩ := hown
            · simp at o0
            have hor : OR τ (some (cap * 2, 2)) (.cells ⟨regC (x :: l)⟩ 177 (4, 1)) (.cells cur 177 (0, 0)) := by
              refine .more _ _ _ _ 2 ?_ hcsz ?_
              · have := regC_length (x :: l)
                simp at this ⊢
                simp at hcap
                omega
              · intro j v1 v2 hv1 hv2
                have e1 : (regC (x :: l))[j]? = some v1 := by simpa using hv1
                rw [← htk] at e1
                have hj : j < (x :: l).length * 2 := by
                  have := (List.getElem?_eq_some_iff.1 e1).1
                  simp at this ⊢
                  omega
                rw [List.getElem?_take, if_pos hj, Array.getElem?_toList, hv2] at e1
                cases e1
                have e2 : (regC (x :: l))[j]? = some v1 := by simpa using hv1
                have hU : ∀ u ∈ regC (x :: l), ∃ a, u = U a := by
                  intro u hu
                  unfold regC at hu
                  simp only [List.mem_flatten, List.mem_map] at hu
                  obtain ⟨q, ⟨p, _, rfl⟩, hq⟩ := hu
                  simp at hq
                  rcases hq with rfl | rfl <;> exact ⟨_, rfl⟩
                obtain ⟨a, rfl⟩ := hU v1 (List.mem_of_getElem? e2)
                exact .int _ _
            obtain ⟨τ', l1, t1, W1⟩ := hW.addAt hg (by cases e : B g with | none => rfl | some o => have := hw.kp.lt (j := g) (by rw [e]; simp); omega) (fun k i hki => by have := (hw.dom _ _ _ hki).2.1; omega) hor
            refine ⟨τ', _, rfl, l1, ?_, by simpa using W1⟩
            exact .sl _ _ _ _ _ _ _ t1 ⟨hcap, by simp⟩
        · cases h
      · cases h
    · cases h
  · cases h
end Go.Proofs.YtkndlfdpmpdihaaGreatDoor
namespace Go.Ev
/-- A book on trees that says what a book on rows says. -/
theorem EvOkT.of {P : Program} {G : Gl} {bk : Ev} (hb : EvOk P G bk) {bkT : EvF} (h : ∀ f args w v w' H, bkT f args w = some (v, w') → Rep w H → ∃ u', bk f args (wOf H) = some (v, u') ∧ Rep w' u'.heap) : EvOkT P G bkT := by
  intro f args wa v wa2 he B w0 τ args' wr hA hw
  obtain ⟨H, hR, hw⟩ := hw
  obtain ⟨u', h1, h2⟩ := h f args wa v wa2 H he hR
  refine Calls.mono (hb f args (wOf H) v u' h1 B w0 τ args' wr hA hw) ?_
  rintro e wr' ⟨τ', v', rfl, l1, hv, hw'⟩
  exact ⟨τ', v', rfl, l1, hv, _, h2, hw'⟩
end Go.Ev
namespace Go.Proofs.YtkndlfdpmpdihaaGreatDoor
open Go.RowKit Go.Ev
set_option linter.unusedVariables false
set_option linter.unusedSimpArgs false

noncomputable def regionsT : EvF := fun f args w => match Nat.beq f 135, args with
  | true, ⟨[.pointer (some ⟨b, 0, none⟩)]⟩ => match w.blk b with
    | some (.cells ⟨.map (some m) :: _⟩ _ (0, 0)) => match w.blk m with
        | some (.map es c) => match okRg es.toList c with
          | true => match srtRg (es.toList.map kkRg) with
            | [] => some (.slice none 0 0, w)
            | x :: l => match Nat.blt w.n 65536 with
              | true => forceNat (l.length + 1) fun k => forceL (forceV 20) (regC (x :: l)) fun cs => w.pushK (.cells ⟨cs⟩ 177 (4, 1)) fun w' => some (.slice (some ⟨w.n, 0, none⟩) k k, w')
              | false => none
          | false => none
        | _ => none
    | _ => none
  | _, _ => none
theorem regionsT_ok {G : Gl} : EvOkT Tryz.prog G regionsT := by
  refine EvOkT.of regionsB_ok ?_
  intro f args w v w' H h hR
  unfold regionsT at h
  split at h <;> first | (cases h; done) | skip
  rename_i b hf
  split at h <;> first | (cases h; done) | skip
  rename_i m cr ct hb
  have e1 : H[b]? = _ := (hR.blk hb).1
  split at h <;> first | (cases h; done) | skip
  rename_i es c hm
  have e2 : H[m]? = _ := (hR.blk hm).1
  split at h <;> first | (cases h; done) | skip
  rename_i hok
  have e0 := Nat.eq_of_beq_eq_true hf
  subst e0
  split at h
  · rename_i hs
    cases h
    refine ⟨wOf H, ?_, hR⟩
    simp only [regionsB, wOf, Nat.beq_refl, e1, e2, hok, hs]
  · rename_i x l hs
    split at h <;> first | (cases h; done) | skip
    rename_i hlt
    simp only [forceNat_eq, forceL_eq _ (forceV_eq 20), TW.pushK, forceObj_eq, T.setK_eq, Option.some.injEq, Prod.mk.injEq] at h
    obtain ⟨rfl, rfl⟩ := h
    refine ⟨wOf (H.push (.cells ⟨regC (x :: l)⟩ 177 (4, 1))), ?_, ?_⟩
    · simp only [regionsB, wOf, Nat.beq_refl, e1, e2, hok, hs, forceNat_eq, forceL_eq _ (forceV_eq 20), Go.Ev.spine_eq]
      rw [← hR.size]
      obtain ⟨hh⟩ := H
      simp
    · exact hR.push (by simpa [Nat.blt_eq] using hlt) _
end Go.Proofs.YtkndlfdpmpdihaaGreatDoor
