/- bits.Add; states of the board; pieces of code reckoned on small worlds. No conditions beyond those that each statement shows. -/
import Derived.Test.YtkndlfdpmpdihaaGreatDoorProg
import Derived.WalkKit
import Derived.WalkLawsBesides
import Derived.WalkSpells
import Derived.RegionTactic
import Derived.StillTailTactics
import Derived.Laws.Externs
import Derived.KernelRfl
import Derived.Test.YtkndlfdpmpdihaaGreatDoorE5
import Derived.Test.YtkndlfdpmpdihaaGreatDoorE6
import Derived.Test.YtkndlfdpmpdihaaGreatDoorS2
import Derived.Test.YtkndlfdpmpdihaaGreatDoorL4
namespace Go.Proofs.YtkndlfdpmpdihaaGreatDoor
open Go.RowKit
set_option linter.unusedVariables false
set_option linter.unusedSimpArgs false
theorem run_add64 (a b : Int) (w : World) : (callFunc 149 #[.int .u64 a, .int .u64 b, .int .u64 0]).run Tryz.prog w = .ok (.value (.tuple #[.int .u64 (((a.toNat + b.toNat) % 18446744073709551616 : Nat) : Int), .int .u64 (((a.toNat + b.toNat) / 18446744073709551616 : Nat) : Int)])) w := by
  kernel_rfl
theorem add_any (a b : Int) (w : World) : Calls Tryz.prog 91 #[.int .u64 a, .int .u64 b] w fun e w' => e = .returned (.int .u64 (if (a.toNat + b.toNat) / 18446744073709551616 = 0 then (((a.toNat + b.toNat) % 18446744073709551616 : Nat) : Int) else 18446744073709551615)) ∧ w' = w := by
  have hr := fun w => run_add64 a b w
  have hc : (a.toNat + b.toNat) / 18446744073709551616 = 0 ↔ (((a.toNat + b.toNat) / 18446744073709551616 : Nat) : Int) = 0 := by omega
  simp only [hc]
  generalize (((a.toNat + b.toNat) % 18446744073709551616 : Nat) : Int) = q at hr ⊢
  generalize (((a.toNat + b.toNat) / 18446744073709551616 : Nat) : Int) = c at hr ⊢
  by_cases h : c = 0
  · rw [if_pos h]
    subst h
    go_enter Tryz.func91, Tryz.ntmps91
    go_wp2
    go_ret
    exact ⟨rfl, rfl⟩
  · rw [if_neg h]
    have hq : (c == 0) = false := by rw [beq_eq_false_iff_ne]; exact h
    go_enter Tryz.func91, Tryz.ntmps91
    go_wp2
    go_ret
    exact ⟨rfl, rfl⟩
end Go.Proofs.YtkndlfdpmpdihaaGreatDoor
namespace Go.Proofs.YtkndlfdpmpdihaaGreatDoor
open Go.RowKit Go.Ev
set_option linter.unusedVariables false
set_option linter.unusedSimpArgs false
def uT (x : Value) : Bool := match x with
  | .int .u64 _ => true
  | .func (.yield _) _ ⟨[_, .int .u64 _]⟩ => true
  | _ => false
noncomputable def addB : EvF := fun f args w => match Nat.beq f 91 with
  | true => match args with
    | ⟨[x, y]⟩ => match uT x && (uT y && (isSy x || isSy y)) with
      | true => some (ad x y, w)
      | false => none
    | _ => none
  | false => none
theorem uT_arg {G : Gl} {τ : Rel} {x x' : Value} (h : uT x = true) (hs : τ.s = G.s) (hv : VR τ x x') : ∃ a, x' = .int .u64 a ∧ symArg G.s x x' := by
  cases x with
  | int k n =>
    cases k <;> first | (cases h; done) | skip
    cases hv
    exact ⟨n, rfl, .inl ⟨rfl, rfl⟩⟩
  | func fn xs ys =>
    cases fn with
    | yield l =>
      obtain ⟨ys⟩ := ys
      match ys, h with
      | [c, .int .u64 n], h =>
        cases hv with
        | func fn xs ys us vs hf => exact absurd rfl (hf _)
        | sym l xs ys v' hsy hb =>
          rw [hs] at hsy
          have ht := G.ty _ _ _ hsy (show symTy (.func (.yield l) xs ⟨[c, .int .u64 n]⟩) = some (.int .u64 n) from rfl)
          cases x' <;> first | (cases ht; done) | skip
          rename_i k m
          have : IntKind.u64 = k := by simpa [sameTy] using ht
          subst this
          exact ⟨m, rfl, .inr hsy⟩
    | _ => cases h
  | _ => cases h
theorem addB_ok {G : Gl} : EvOkT Tryz.prog G addB := by
  intro f args wa v wa2 h B w0 τ args' wr hA hw
  unfold addB at h
  split at h <;> first | (cases h; done) | skip
  rename_i hf
  split at h <;> first | (cases h; done) | skip
  rename_i x y
  split at h <;> first | (cases h; done) | skip
  rename_i hc
  cases h
  simp only [Bool.and_eq_true] at hc
  have hf := Nat.eq_of_beq_eq_true hf
  subst hf
  have hsy : τ.s = G.s := by obtain ⟨H, _, hw⟩ := hw; exact hw.sy
  obtain ⟨args'⟩ := args'
  have hsz := hA.1
  simp only [List.size_toArray, List.length_cons, List.length_nil] at hsz
  match args', hsz, hA with
  | [x', y'], _, hA =>
    obtain ⟨a, rfl, ha⟩ := uT_arg hc.1 hsy (hA.2 0 x x' rfl rfl)
    obtain ⟨b, rfl, hb⟩ := uT_arg hc.2.1 hsy (hA.2 1 y y' rfl rfl)
    refine (add_any a b wr).mono ?_
    rintro e w' ⟨rfl, rfl⟩
    refine ⟨τ, _, rfl, Rel.le.refl _, .sym _ _ _ _ ?_ rfl, hw⟩
    rw [hsy]
    exact G.cl 5 [x, y] _ _ _ _ (.cons _ _ _ _ ha (.cons _ _ _ _ hb .nil)) rfl (by simp [sameTy])
end Go.Proofs.YtkndlfdpmpdihaaGreatDoor
namespace Go.Proofs.YtkndlfdpmpdihaaGreatDoor
open Go.RowKit Go.Ev
set_option linter.unusedVariables false
set_option linter.unusedSimpArgs false
set_option maxRecDepth 1000000
theorem drawsD {G : Gl} (ev : EvF) (h : EvOkT Tryz.prog G ev) : DrOkW Tryz.prog G (evalDrawnP Tryz.prog G ev) := evalDrawnP_okW (by kernel_rfl) ev h
noncomputable def evD (G : Gl) : EvF := evY Tryz.prog G (evalDrawnP Tryz.prog G) (orB addB regionsT) 3000 100
theorem evD_ok (G : Gl) : EvOkT Tryz.prog G (evD G) := evY_ok drawsD (orB_ok addB_ok regionsT_ok) 3000 100
/-- The blocks of a state, one call later. -/
def grow (ft : Nat → Prop) (w w' : World) : Nat → Prop := fun r => ft r ∨ (w.heap.size ≤ r ∧ r < w'.heap.size)
def pl (ρ : Nat → Option Value) : Gl := mkG 8 ρ [] (DL.nil ρ)
/-- The small world of l lies in w, its symbols told by ρ; ks: where some of its blocks lie. -/
def Sx (l : List Obj) (ks : List (Nat × Nat)) (ρ : Nat → Option Value) (ft : Nat → Prop) (w : World) : Prop := ∃ τ : Rel, St (pl ρ) l τ ft w ∧ ∀ p ∈ ks, ∃ i, τ.r p.1 p.2 i
section
variable {l l' : List Obj} {ks : List (Nat × Nat)} {ρ ρ1 ρ' : Nat → Option Value} {ft : Nat → Prop} {w : World}
theorem Sx.go {dl : List (Value × Bool)} {exps ag : List Value} {pi : List Nat} {f : Nat} {v : Value} {args : Array Value} (h : Sx l ks ρ ft w) (hw : ∀ i v, ρ i = some v → ρ1 i = some v) (hdl : DL ρ1 dl) (hex : EX ρ1 ρ' 0 exps)
    (ha : ∀ τ : Rel, τ.s = symS ρ1 → (∀ p ∈ ks, ∃ i, τ.r p.1 p.2 i) → AR τ ⟨ag⟩ args) (hl : l'.length ≤ 65536) (hk : askW (evD (mkG 8 ρ1 dl hdl)) f ag l v 8 pi exps l' = true) :
    Calls Tryz.prog f args w fun e w' => ∃ (τ1 : Rel) (v' : Value), e = .returned v' ∧ VR τ1 v v' ∧ τ1.s = symS ρ1 ∧ Kp (fr ft w) w w' ∧ (∀ p ∈ ks, ∃ i, τ1.r p.1 p.2 i) ∧
      ∀ ks', (∀ p ∈ ks', ∃ x, pi[p.1]? = some x ∧ ∃ i, τ1.r x p.2 i) → Sx l' ks' ρ' (grow ft w w') w' := by
  obtain ⟨τ, hst, hks⟩ := h
  have h1 : St (mkG 8 ρ1 dl hdl) l ⟨τ.r, symS ρ1⟩ ft w := hst.wider (G := pl ρ) (G' := mkG 8 ρ1 dl hdl) rfl (fun e v x => symS_wider hw x)
  refine (h1.call (G' := pl ρ') (evD_ok _) hl rfl hex.ok (ha _ rfl hks) hk).mono ?_
  rintro e w' ⟨τ1, v', rfl, hle, hs, hv, hst', hkp⟩
  have hks1 : ∀ p ∈ ks, ∃ i, τ1.r p.1 p.2 i := fun p hp => let ⟨i, hi⟩ := hks p hp; ⟨i, hle.r _ _ _ hi⟩
  refine ⟨τ1, v', rfl, hv, hs, hkp, hks1, fun ks' hk' => ⟨_, hst', fun p hp => ?_⟩⟩
  obtain ⟨x, hx, i, hi⟩ := hk' p hp
  exact ⟨i, x, hx, hi⟩
theorem Sx.keep (hl : l.length ≤ 65536) (ho : noOld 8 l = true) (h : Sx l ks ρ ft w) {w' : World} (hsz : w.heap.size ≤ w'.heap.size) (hk : ∀ r, r < w.heap.size → (ft r ∨ r < 8) → w'.heap[r]? = w.heap[r]?) : Sx l ks ρ ft w' := by
  obtain ⟨τ, hst, hks⟩ := h
  exact ⟨τ, hst.keep hl ho hsz hk, hks⟩
theorem Sx.sub {ks' : List (Nat × Nat)} (h : Sx l ks ρ ft w) (hs : ∀ p ∈ ks', p ∈ ks) : Sx l ks' ρ ft w := by
  obtain ⟨τ, hst, hks⟩ := h
  exact ⟨τ, hst, fun p hp => hks p (hs p hp)⟩
theorem Sx.gl (h : Sx l ks ρ ft w) (r : Nat) (hr : r < 8) : ¬ ft r := by
  obtain ⟨τ, hst, _⟩ := h
  exact hst.gl r hr
/-- Other names for the same. -/
theorem Sx.name (h : Sx l ks ρ ft w) (hw : ∀ i v, ρ i = some v → ρ' i = some v) : Sx l ks ρ' ft w := by
  obtain ⟨τ, hst, hks⟩ := h
  exact ⟨⟨τ.r, symS ρ'⟩, hst.wider (G := pl ρ) (G' := pl ρ') rfl (fun e v x => symS_wider hw x), hks⟩
/-- What a symbol stands for. -/
theorem vr_val {τ : Rel} {x u v : Value} (hv : VR τ x v) (hs : τ.s = symS ρ) (hx : Da ρ x u) (hsb : sb x = false) : v = u := by
  have h1 := hx.sym hsb
  cases x with
  | func fn xs ys =>
    cases fn with
    | yield l =>
      cases hv with
      | func fn xs ys us vs hf => exact absurd rfl (hf _)
      | sym l xs ys v' hsy hb => rw [hs] at hsy; exact symS_fn hsy h1
    | _ => obtain ⟨n, hn⟩ := h1; cases n <;> (unfold den at hn; cases hn)
  | _ => obtain ⟨n, hn⟩ := h1; cases n <;> (unfold den at hn; cases hn)
/-- The cells of one of its blocks. -/
theorem Sx.cells (hl : l.length ≤ 65536) (h : Sx l ks ρ ft w) {k r : Nat} (hk : (k, r) ∈ ks) {cs : Array Value} {t : TypeId} (hc : l[k]? = some (.cells cs t (0, 0))) :
    ∃ (τ : Rel) (cs' : Array Value), τ.s = symS ρ ∧ w.heap[r]? = some (.cells cs' t (0, 0)) ∧ AR τ cs cs' ∧ (∀ p ∈ ks, ∃ i, τ.r p.1 p.2 i) ∧ ft r := by
  obtain ⟨τ, hst, hks⟩ := h
  obtain ⟨H, hR, hw⟩ := hst.wt
  obtain ⟨i, hi⟩ := hks _ hk
  have hlt := hw.dom _ _ _ hi
  have hH : H[k]? = some (.cells cs t (0, 0)) := by
    have h1 := hR.get k (by have := hR.lt; have := hR.size; have := hlt.1; omega)
    have h2 := (fillT_rep hl).get k (by have := hR.lt; have := hR.size; have := hlt.1; omega)
    rw [← h1, h2]
    simpa using hc
  obtain ⟨r', i', o', a, b, c⟩ := hw.blk k _ hH rfl
  obtain ⟨rfl, rfl⟩ := hw.fn _ _ _ _ _ hi a
  cases c with
  | cells cs cs' e hc' => exact ⟨τ, cs', hw.sy, b, hc', hks, fr_none (hlt.2.2 ⟨_, hH, rfl⟩) hlt.2.1⟩
end
/-- The frame of a call, put otherwise. -/
theorem kp_keep {ft : Nat → Prop} {w w' : World} (h : Kp (fr ft w) w w') {r : Nat} (hr : r < w.heap.size) (hf : ¬ ft r) : w'.heap[r]? = w.heap[r]? := by
  have := h.block r w.heap[r] (by rw [fr_of hf]; exact Array.getElem?_eq_getElem hr)
  rw [this]
  exact (Array.getElem?_eq_getElem hr).symm
theorem grow_old {ft : Nat → Prop} {w w' : World} {r : Nat} (hr : r < w.heap.size) (hf : ¬ ft r) : ¬ grow ft w w' r := by
  rintro (h | h)
  · exact hf h
  · omega
end Go.Proofs.YtkndlfdpmpdihaaGreatDoor
namespace Go.Proofs.YtkndlfdpmpdihaaGreatDoor
open Go.RowKit Go.Ev
set_option linter.unusedVariables false
set_option linter.unusedSimpArgs false
set_option maxRecDepth 1000000
/-- lives(), where the two tables lie in their places. -/
noncomputable def livesB : EvF := fun f args w => match Nat.beq f 21, args with
  | true, ⟨[]⟩ => match cvW 8 [0, 1, 2, 3, 4, 5, 6, 7] (fun _ _ => false) w (fillT g8) with
    | true => some (.bool true, w)
    | false => none
  | _, _ => none
theorem g8_dead (g : Nat) (o : Obj) (h : (⟨g8⟩ : Array Obj)[g]? = some o) : live o = false := by
  rcases g8_at g o h with ⟨rfl, _⟩ | ⟨_, rfl⟩ | ⟨_, rfl⟩
  · rfl
  · exact not_live_old _ _
  · exact not_live_old _ _
theorem livesB_ok {G : Gl} (hG : G.n = 8) : EvOkT Tryz.prog G livesB := by
  intro f args wa v wa2 h B w0 τ args' wr hA hw
  unfold livesB at h
  split at h <;> first | (cases h; done) | skip
  rename_i hf
  split at h <;> first | (cases h; done) | skip
  rename_i hc
  cases h
  have hf := Nat.eq_of_beq_eq_true hf
  subst hf
  have hz : args' = #[] := by
    have := hA.1
    apply Array.eq_empty_of_size_eq_zero
    simpa using this.symm
  subst hz
  have h1 : WT G8 B w0 (τ.via [0, 1, 2, 3, 4, 5, 6, 7] G8.s) (fillT g8) wr :=
    WT.conv (G := G) (G' := G8) (sub := fun _ _ => false) (hG ▸ rfl) (fun x y h => by cases h) (fillT_rep (by decide)) (by rw [hG]; exact hc) hw
  obtain ⟨H, hR, h1⟩ := h1
  have hH : ∀ (k : Nat) (o : Obj), H[k]? = some o → live o = false := by
    intro k o hk
    have hlt := (Array.getElem?_eq_some_iff.1 hk).1
    have a := hR.get k (by have := hR.lt; have := hR.size; omega)
    have b := g8_rep.get k (by have := hR.lt; have := hR.size; omega)
    rw [a] at b
    exact g8_dead k o (by rw [← b]; exact hk)
  have hal : ∀ k, ¬ alive H k := fun k ⟨o, ho, hl⟩ => by rw [hH k o ho] at hl; cases hl
  have h2 : WR G8 (fun r => wr.heap[r]?) wr (τ.via [0, 1, 2, 3, 4, 5, 6, 7] G8.s) H wr := by
    refine ⟨h1.blk, h1.fn, h1.inj, fun k r i ht => ?_, h1.ok, fun k cs e hk => ?_, h1.glob, Kp.start wr, h1.sy⟩
    · have := h1.dom _ _ _ ht
      exact ⟨this.1, this.2.1, fun l => absurd l (hal k)⟩
    · obtain ⟨r, i, cs', e', f, a, b, c, d, q⟩ := h1.old k cs e hk
      exact ⟨r, i, cs', e', f, a, b, c, d, .inl (h1.dom _ _ _ a).2.1⟩
  have hr := lives_run
  rw [fillR_fillT] at hr
  obtain ⟨w1, hr⟩ := ansIs_spec hr
  refine (evL_ok 21 #[] (fillT g8) _ w1 hr _ wr _ #[] wr (AR.nil _) ⟨H, hR, h2⟩).mono ?_
  rintro e w' ⟨τ', v', rfl, _, hv, H', _, hw'⟩
  cases hv
  exact ⟨τ, _, rfl, Rel.le.refl _, .bool _, hw.belowed hw'.kp.below⟩

noncomputable def evC (G : Gl) : EvF := evY Tryz.prog G (evalDrawnP Tryz.prog G) (orB livesB (orB addB regionsT)) 3000 100
theorem evC_ok (G : Gl) (hG : G.n = 8) : EvOkT Tryz.prog G (evC G) := evY_ok drawsD (orB_ok (livesB_ok hG) (orB_ok addB_ok regionsT_ok)) 3000 100
def evi0 : EvI := fun _ _ _ _ => none
theorem evi0_ok {P : Program} {G : Gl} : EvIOk P G evi0 := fun gf lb rd wa p wa2 h => by cases h
def rd0 : Rd := fun _ _ => none
noncomputable def codeC (G : Gl) (c : Code) : Bd := codeY Tryz.prog G (evC G) evi0 rd0 (evalDrawnP Tryz.prog G (evC G)) 3000 c
theorem codeC_ok (G : Gl) (hG : G.n = 8) (c : Code) : BdOk Tryz.prog G rd0 (codeC G c) c := by
  unfold codeC
  rw [codeY_eq]
  exact evalCodeX_sound (evC_ok G hG) evi0_ok (drawsD _ (evC_ok G hG)) 3000 c
/-- Pieces, one behind the other. -/
noncomputable def runL (G : Gl) : List Code → Env → TW → Option (Env × TW)
  | [], a, w => some (a, w)
  | c :: cs, a, w => match codeC G c .fresh a w with
    | some (.normal, .fresh, a', w') => runL G cs a' w'
    | _ => none
def exEq : Exit → Exit → Bool
  | .normal, .normal => true
  | .ret, .ret => true
  | .exit a, .exit b => Nat.beq a b
  | _, _ => false
theorem exEq_eq {a b : Exit} (h : exEq a b = true) : a = b := by
  cases a <;> cases b <;> first | (cases h; done) | rfl | (rw [Nat.eq_of_beq_eq_true h])
/-- The temporaries, put anew. -/
noncomputable def cvEnv (pi : List Nat) (sub : Value → Value → Bool) (e1 : List (Nat × Value)) : List (Nat × Value) → Bool
  | [] => true
  | (t, v) :: l => (match Ev.look e1 t with
    | some u => cvV pi sub 20 u v
    | none => false) && cvEnv pi sub e1 l
/-- What the kernel is asked: a piece of code, from the temporaries e and the small world of l; it ends by ex; then the temporaries e' and the small world of l'; temporary 4 is as it was. -/
noncomputable def askC (run : Env → TW → Option (Exit × FSt × Env × TW)) (ex : Exit) (m : Nat) (e : List (Nat × Value)) (l : List Obj) (pi : List Nat) (exps : List Value) (e' : List (Nat × Value)) (l' : List Obj) : Option Value :=
  fillR l (fun T => fillR l' (fun T' => match run ⟨m, e⟩ T with
    | some (ex1, .fresh, ⟨n1, e1⟩, T1) => match Nat.beq n1 m && (exEq ex1 ex && (cvEnv pi (subE exps) e1 e' && cvW 8 pi (subE exps) T1 T')) with
      | true => Ev.look e1 4
      | false => none
    | _ => none) ⟨.nil, 0⟩) ⟨.nil, 0⟩
noncomputable def runN (G : Gl) (cs : List Code) : Env → TW → Option (Exit × FSt × Env × TW) := fun a w => match runL G cs a w with
  | some (a', w') => some (.normal, .fresh, a', w')
  | none => none
/-- The state within a function: its temporaries; temporary 4 is a slice that is only handed on. -/
def Sc (G : Gl) (l : List Obj) (m : Nat) (e : List (Nat × Value)) (A : Value) (rA : Option Nat) (ft : Nat → Prop) (a : Act) (w : World) : Prop :=
  ∃ τ : Rel, St G l τ ft w ∧ EnvR τ ⟨m, (4, A) :: e⟩ a ∧ ∀ r, rA = some r → τ.r 8 r none
/-- Such a slice. -/
def sliceA (A : Value) : Prop := (∃ l c, A = .slice none l c) ∨ ∃ o l c, A = .slice (some ⟨8, o, none⟩) l c
/-- .. or one that is told by a symbol. -/
def slS : Value := .func (.yield 0) ⟨[]⟩ ⟨[.int .u64 (.ofNat 25)]⟩
def AOk (s s' : Value → Value → Prop) (A : Value) : Prop := sliceA A ∨ (A = slS ∧ ∀ v, s slS v → s' slS v)
theorem sliceA_via {A v : Value} {τ : Rel} {s : Value → Value → Prop} (h : AOk τ.s s A) {pi : List Nat} (hp : pi[8]? = some 8) (hv : VR τ A v) : VR (τ.via pi s) A v := by
  rcases h with (⟨l, c, rfl⟩ | ⟨o, l, c, rfl⟩) | ⟨rfl, h⟩
  · cases hv; exact .sl0 _ _
  · cases hv
    rename_i i ht hc
    exact .sl _ _ _ _ _ _ i ⟨8, hp, ht⟩ hc
  · cases hv with
    | func fn xs ys us vs hf => exact absurd rfl (hf _)
    | sym l xs ys v' hsy hb => exact .sym _ _ _ _ (h _ hsy) hb
section
variable {G G' : Gl} {l l' : List Obj} {m : Nat} {e e' : List (Nat × Value)} {A : Value} {rA : Option Nat} {ft : Nat → Prop} {a : Act} {w : World} {pi : List Nat} {exps : List Value}
theorem cvEnv_at {sub : Value → Value → Bool} {e1 : List (Nat × Value)} : ∀ {e' : List (Nat × Value)}, cvEnv pi sub e1 e' = true → ∀ (t : Nat) (v : Value), Ev.look e' t = some v → ∃ u, Ev.look e1 t = some u ∧ cvV pi sub 20 u v = true
  | [], _, t, v, h => by cases h
  | (k, x) :: l, hc, t, v, h => by
    rw [cvEnv, Bool.and_eq_true] at hc
    unfold Ev.look at h
    cases hk : Nat.beq k t with
    | true =>
      rw [hk] at h
      cases h
      have := Nat.eq_of_beq_eq_true hk
      subst this
      have h1 := hc.1
      split at h1
      · rename_i u hu; exact ⟨u, hu, h1⟩
      · cases h1
    | false =>
      rw [hk] at h
      exact cvEnv_at hc.2 t v h
theorem ask_end {τ1 : Rel} {e1 : List (Nat × Value)} {T1 : TW} {a1 : Act} {w1 : World} {n1 : Nat} (hn1 : a1.tmps.size = n1) (hG : G.n = 8) (hn : G'.n = G.n) (hs : SubOk G G' (subE exps)) (hl' : l'.length ≤ 65536) (hA : AOk G.s G'.s A) (hp : pi[8]? = some 8)
    (hc1 : cvEnv pi (subE exps) e1 e' = true) (hc2 : cvW 8 pi (subE exps) T1 (fillT l') = true) (hc3 : Ev.look e1 4 = some A) (hav : EnvR τ1 ⟨n1, e1⟩ a1) (hw : WT G (fr ft w) w τ1 T1 w1) (hst : St G l τ1 ft w → True)
    (h8 : 8 ≤ w.heap.size) (hgl : ∀ r, r < 8 → ¬ ft r) (hra : ∀ r, rA = some r → τ1.r 8 r none) (hm : n1 = m) : Sc G' l' m e' A rA (grow ft w w1) a1 w1 := by
  subst hm
  have hsy : τ1.s = G.s := by obtain ⟨H, _, hw⟩ := hw; exact hw.sy
  refine ⟨τ1.via pi G'.s, ⟨?_, ?_⟩, ⟨fun t v hv => ?_, hav.size, hav.d'⟩, fun r hr => ⟨8, hp, hra r hr⟩⟩
  · refine (WT.conv hn hs (fillT_rep hl') (by rw [hG]; exact hc2) hw).reframe fun r hr hlt => ?_
    by_cases h1 : r < w.heap.size
    · exact .inl (fr_none hr h1)
    · exact .inr ⟨by omega, hlt⟩
  · rintro r hr (h1 | h1)
    · exact hgl r (by omega) h1
    · omega
  · unfold Ev.look at hv
    cases hk : Nat.beq 4 t with
    | true =>
      rw [hk] at hv
      cases hv
      have := Nat.eq_of_beq_eq_true hk
      subst this
      exact sliceA_via (by rw [hsy]; exact hA) hp (hav.tmps 4 _ hc3)
    | false =>
      rw [hk] at hv
      obtain ⟨u, hu, hcv⟩ := cvEnv_at hc1 t v hv
      exact cvV_sound hs hsy 20 u v _ hcv (hav.tmps t u hu)
/-- A piece of code. -/
theorem Sc.go {c : Code} {ex : Exit} {ρ ρ1 ρ' : Nat → Option Value} {dl : List (Value × Bool)} {Q : Exit → Act → World → Prop} (h : Sc (pl ρ) l m e A rA ft a w) (hw : ∀ i v, ρ i = some v → ρ1 i = some v) (hdl : DL ρ1 dl) (hex : EX ρ1 ρ' 0 exps)
    (hA : AOk (symS ρ1) (symS ρ') A) (hp : pi[8]? = some 8) (hl : l'.length ≤ 65536) (hk : askC (codeC (mkG 8 ρ1 dl hdl) c .fresh) ex m ((4, A) :: e) l pi exps e' l' = some A)
    (hQ : ∀ a' w', Sc (pl ρ') l' m e' A rA (grow ft w w') a' w' → Kp (fr ft w) w w' → Q ex a' w') : c.wp Tryz.prog Q a w := by
  obtain ⟨τ, hst, henv, hra⟩ := h
  have h1 : St (mkG 8 ρ1 dl hdl) l ⟨τ.r, symS ρ1⟩ ft w := hst.wider (G := pl ρ) (G' := mkG 8 ρ1 dl hdl) rfl (fun e v x => symS_wider hw x)
  have hle : τ.le ⟨τ.r, symS ρ1⟩ := ⟨fun _ _ _ x => x, fun e v x => by
    have hs : τ.s = symS ρ := by obtain ⟨H, _, hw⟩ := hst.wt; exact hw.sy
    rw [hs] at x; exact symS_wider hw x⟩
  have h8 : 8 ≤ w.heap.size := WT.size (G := pl ρ) (by show 0 < 8; omega) hst.wt
  have hgl : ∀ r, r < 8 → ¬ ft r := hst.gl
  unfold askC at hk
  rw [fillR_fillT, fillR_fillT] at hk
  split at hk <;> first | (cases hk; done) | skip
  rename_i ex1 n1 e1 T1 hrun
  split at hk <;> first | (cases hk; done) | skip
  rename_i hcc
  simp only [Bool.and_eq_true] at hcc
  have := exEq_eq hcc.2.1
  subst this
  have hin := codeC_ok (mkG 8 ρ1 dl hdl) rfl c hrun (C := ⟨fr ft w, 0, fun _ => default⟩) (τ0 := ⟨τ.r, symS ρ1⟩) (w0 := w) (r := none) (B := fr ft w) (τ := ⟨τ.r, symS ρ1⟩) (a' := a) (wr := w) (Rel.le.refl _)
    (by have := henv.mono hle; exact ⟨this.tmps, this.size, rfl⟩) ⟨rfl, henv.d', rfl⟩ h1.wt (Q := Q) ?_
  · exact wpIn_wide.1 hin
  · intro τ' B' a2' wr' hle2 henv2 hfr hw2
    obtain ⟨_, hdf, hB⟩ := hfr
    subst hB
    have hkp : Kp (fr ft w) w wr' := by obtain ⟨H, _, hw2⟩ := hw2; exact hw2.kp
    refine hQ a2' wr' (ask_end (G := mkG 8 ρ1 dl hdl) (G' := pl ρ') (l := l) (τ1 := τ') (e1 := e1) (T1 := T1) (n1 := n1) henv2.size rfl rfl hex.ok hl hA hp hcc.2.2.1 hcc.2.2.2 hk ⟨henv2.tmps, henv2.size, hdf⟩ hw2 (fun _ => trivial) h8 hgl
      (fun r hr => hle2.r _ _ _ (hra r hr)) (Nat.eq_of_beq_eq_true hcc.1)) hkp
end
end Go.Proofs.YtkndlfdpmpdihaaGreatDoor
namespace Go.Proofs.YtkndlfdpmpdihaaGreatDoor
open Go
set_option maxRecDepth 1000000
noncomputable def c1 : Code → Code
  | .seq x _ => x
  | c => c
noncomputable def c2 : Code → Code
  | .seq _ y => y
  | c => c
noncomputable def cb : Code → Code
  | .block _ x => x
  | .loop x => x
  | c => c
noncomputable def body3 : Code := match Tryz.f3.body with
  | some b => b
  | none => .skip
noncomputable def s4 : Code := c2 (c2 (c2 (c2 body3)))
noncomputable def s5 : Code := c2 s4
noncomputable def s6 : Code := c2 s5
noncomputable def s7 : Code := c2 s6
noncomputable def s8 : Code := c2 s7
noncomputable def s9 : Code := c2 s8
noncomputable def s10 : Code := c2 s9
noncomputable def r11 : Code := c1 (c1 s10)
noncomputable def loop0 : Code := c2 (c1 s10)
noncomputable def s11 : Code := c2 s10
noncomputable def round3 : Code := cb (cb loop0)
noncomputable def head3 : Code := c1 round3
noncomputable def inner3 : Code := cb (c1 (c2 round3))
noncomputable def r13 : Code := c2 (c2 round3)
noncomputable def r14 : Code := c1 inner3
noncomputable def rest3 : Code := c2 inner3
noncomputable def pro3 : List Code := [c1 s4, c1 s5, c1 s6, c1 s7, c1 s8, c1 s9]
theorem s4_eq : s4 = pro3.foldr Code.seq s10 := by kernel_rfl
theorem s10_eq : s10 = .seq (.seq r11 loop0) s11 := by kernel_rfl
theorem loop0_eq : loop0 = .block 0 (.loop round3) := by kernel_rfl
theorem round3_eq : round3 = .seq head3 (.seq (.block 1 (.seq r14 rest3)) r13) := by kernel_rfl
end Go.Proofs.YtkndlfdpmpdihaaGreatDoor
