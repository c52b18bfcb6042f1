/- The service: a timer is set at a time. The service's add. The service: At, After where nothing is free, Cancel. Wheels whose chains are told by lists: one more, one less. The service: Cancel. New pools, new chains. New chains, a new wheel. A new wheel. Conditions: those that each statement shows. -/
import Derived.Test.YtkndlfdpmpdihaaGreatDoorA18
import Derived.Carry
import Derived.Laws.MakeOwn
namespace Go.Proofs.YtkndlfdpmpdihaaGreatDoor
open Go.RowKit Go.Ev Go.Mv
set_option linter.unusedVariables false
set_option linter.unusedSimpArgs false
set_option maxRecDepth 100000
section
variable {I : BI} {B : WB} {Z : SB} {a : I.A} {S : WS} {w w' : World}
/-- What the wheel's Add does. -/
def Ad (B : WB) (S : WS) (d p hv : Nat) (S' : WS) : Prop := ∀ w, WheelAt B S w → TabW w → Calls Tryz.prog 103 #[.pointer (some ⟨B.b, 0, none⟩), .int .u64 d, .int .u64 p] w fun e w' =>
  e = .returned (.tuple #[.int .u64 hv, .int .i64 0]) ∧ Tch B.own w w' ∧ WheelAt B S' w'
/-- A block that is none of the service's. -/
def Away (I : BI) (B : WB) (Z : SB) (x : Nat) : Prop := ¬ I.ft x ∧ ¬ B.all x ∧ x ≠ Z.b ∧ 8 ≤ x
theorem at1_at {y : Nat} {d : Nat} (hy : Blk w y #[.int .u64 d] 37) : Calls Tryz.prog 62 #[.pointer (some ⟨y, 0, none⟩)] w fun e w' => e = .returned (.tuple #[.int .u64 d, .int .i64 0]) ∧ w' = w := by
  have c0 : w.cell? ⟨y, 0, none⟩ = some (.int .u64 d) := hy.cell 0 rfl
  go_enter Tryz.func62, Tryz.ntmps62
  go_wp2
  refine bodyPost_ret (v := .tuple #[.int .u64 d, .int .i64 0]) ?_ rfl ⟨rfl, rfl⟩
  simp [results, Tryz.results62, go_sem]
set_option maxHeartbeats 4000000 in
theorem add1_ok (h : SvcAt I B Z a S w) (hf : S.p.n < Z.room) {x0 x1 x2 x3 y : Nat} {d p hv v : Nat} {b : Bool} {S' : WS} (h0 : Blk w x0 #[.pointer (some ⟨Z.b, 0, none⟩)] 57) (h1 : Blk w x1 #[.func (.func 62) #[] #[.pointer (some ⟨y, 0, none⟩)]] 135) (h2 : Blk w x2 #[.int .u64 p] 37) (h3 : Blk w x3 #[.int .u64 0] 37) (hy : Blk w y #[.int .u64 d] 37)
    (a0 : Away I B Z x0) (a3 : Away I B Z x3) (hA : Ad B S d p hv S') (hx : Nx B S' v b) (hl : 3 ≤ I.left a) :
    Calls Tryz.prog 102 #[.pointer (some ⟨x0, 0, none⟩), .pointer (some ⟨x1, 0, none⟩), .pointer (some ⟨x2, 0, none⟩), .pointer (some ⟨x3, 0, none⟩)] w fun e w' => e = .returned (.int .i64 0) ∧ Tch (fun r => (I.ft r ∨ B.own r) ∨ r = x3) w w' ∧
      ∃ a', SvcAt I B Z a' S' w' ∧ (Blk w' x3 #[.int .u64 hv] 37 ∧ ((a' = a ∧ I.armed a = if b then v else 18446744073709551615) ∨ I.R a (if b then v else 18446744073709551615) a')) := by
  have c0 : ∀ x : WX w, x.w.cell? ⟨x0, 0, none⟩ = some (.pointer (some ⟨Z.b, 0, none⟩)) := h0.wx 0 rfl
  have c1 : ∀ x : WX w, x.w.cell? ⟨Z.b, 0, none⟩ = some (.pointer (some ⟨B.b, 0, none⟩)) := h.blk.wx 0 rfl
  have c2 : ∀ x : WX w, x.w.cell? ⟨Z.b, 5, none⟩ = some (.int .i64 (Z.room : Int)) := h.blk.wx 5 rfl
  have hw := h.wheel
  have hlw := hw.lt
  obtain ⟨n, hn⟩ : ∃ n, n = S.p.n := ⟨_, rfl⟩
  have hlv : ∀ W, Below w.heap.size w W → Calls Tryz.prog 72 #[.pointer (some ⟨B.b, 0, none⟩)] W fun e w' => e = .returned (.int .i64 (n : Int)) ∧ Below W.heap.size W w' := fun W hW => by
    rw [hn]
    exact wlive_at (hw.below hW hlw)
  rw [← hn] at hf
  clear hn
  obtain ⟨r, hr⟩ : ∃ r, r = Z.room := ⟨_, rfl⟩
  rw [← hr] at hf c2
  clear hr
  have hfd : decide ((r : Int) ≤ (n : Int)) = false := by simp; exact hf
  obtain ⟨dd, hdd⟩ : ∃ dd, dd = if b then v else 18446744073709551615 := ⟨_, rfl⟩
  rw [← hdd]
  have HDD := Lib.hid hdd
  clear hdd
  go_enter Tryz.func102, Tryz.ntmps102
  go_wp2
  refine wp_region_grown (by kernel_rfl) (by kernel_rfl) ?_
  repeat (go_big_quiet_step (first | (go_at_call 72; exact WX.of (hlv _ (by first | assumption | exact WX.h _)))))
  refine wpQuiet_nil ?_
  intro w2 hb2
  have k1 : w2.cell? ⟨x1, 0, none⟩ = some (.func (.func 62) #[] #[.pointer (some ⟨y, 0, none⟩)]) := (h1.below hb2 h1.lt).cell 0 rfl
  have hy2 := hy.below hb2 hy.lt
  have e62 : ∀ w, (callFunc 62 #[.pointer (some ⟨y, 0, none⟩)]).run Tryz.prog w = .ok (.enter 62 #[.pointer (some ⟨y, 0, none⟩)]) w := fun w => by kernel_rfl
  clear c0 c1 c2 hlv hfd
  go_wp2_with (go_at_call 62; refine (at1_at hy2).mono ?_; rintro e w3 ⟨rfl, rfl⟩)
  have hlz := h.lt
  have h3s := h.below hb2
  have z0 := h0.below hb2 h0.lt
  have z2 := h2.below hb2 h2.lt
  have z3 := h3.below hb2 h3.lt
  have hwl := h3s.wheel
  have hlw3 := hwl.lt
  have hT3 := I.tab h3s.board
  let T2 : World → Prop := fun W => Tch B.own w3 W ∧ WheelAt B S' W
  have hne := callE_ne T2 w3
  haveI := hne.1
  haveI := hne.2
  have d1 : ∀ x : One (CallE T2 w3 false), x.w.cell? ⟨x0, 0, none⟩ = some (.pointer (some ⟨Z.b, 0, none⟩)) := callE_one z0 0 rfl
  have d2 : ∀ x : One (CallE T2 w3 false), x.w.cell? ⟨Z.b, 0, none⟩ = some (.pointer (some ⟨B.b, 0, none⟩)) := callE_one h3s.blk 0 rfl
  have d3 : ∀ x : One (CallE T2 w3 false), x.w.cell? ⟨x2, 0, none⟩ = some (.int .u64 p) := callE_one z2 0 rfl
  refine wp_region_two (CallE T2 w3) 7 (by decide) (by kernel_rfl) (by kernel_rfl) (Below.refl _ _).drew ?_
  (repeat (first | (refine lexS_skip (by rfl) (by decide) ?_; simp only [Act.put, List.setIfInBounds_toArray, List.set_cons_succ, List.set_cons_zero]) | (refine lexS_ewant (by rfl) (by decide) (by kernel_rfl) (by rfl) ?_; intro K hK; go_big_quiet_op; refine hK _ ?_; clear hK K)))
  refine lexS_callT (f := 103) (args := #[.pointer (some ⟨B.b, 0, none⟩), .int .u64 d, .int .u64 p]) (v := .tuple #[.int .u64 hv, .int .i64 0]) (by rfl) (by rfl) (fun w => by kernel_rfl) (fun W hW => ((hA W (hwl.below hW hlw3) (hT3.below hW)).mono fun e w' hx => ⟨hx.1, (Tch.of_below hW).trans hx.2.1, hx.2.2⟩)) ?_
  simp only [Act.put, List.setIfInBounds_toArray, List.set_cons_succ, List.set_cons_zero]
  (repeat (first | (refine lexS_skip (by rfl) (by decide) ?_; simp only [Act.put, List.setIfInBounds_toArray, List.set_cons_succ, List.set_cons_zero]) | (refine lexS_want (by rfl) (by decide) (by rfl) ?_; intro K hK; go_big_quiet_op; refine hK _ ?_; clear hK K)))
  refine fun w4 hw4 => ?_
  have h4 := h3s.wheelT hw4.1 hw4.2
  have n0 : x3 ≠ x0 := fun e => Blk.ne_ z3 z0 (by decide) e
  have z04 : Blk w4 x0 #[.pointer (some ⟨Z.b, 0, none⟩)] 57 := (hw4.1.block _ z0.lt (fun e => a0.2.1 (.inl e))).trans z0
  have z34 : Blk w4 x3 #[.int .u64 0] 37 := (hw4.1.block _ z3.lt (fun e => a3.2.1 (.inl e))).trans z3
  have hT4 : Tch (fun r => (I.ft r ∨ B.own r) ∨ r = x3) w w4 := (Tch.of_below hb2).trans' hw4.1 (fun j _ hj => .inl (.inr hj))
  clear d1 d2 d3 hne hw4
  have q3 : w4.cell? ⟨x3, 0, none⟩ = some (.int .u64 0) := z34.cell 0 rfl
  have f3 := z34.free 0
  have z35 := z34.set 0 (.int .u64 hv)
  have z05 : Blk (w4.setCell ⟨x3, 0, none⟩ (.int .u64 hv)) x0 #[.pointer (some ⟨Z.b, 0, none⟩)] 57 := z04.set_ne 0 _ n0
  have ht5 := (Tch.refl (fun r => r = x3) w4).setCell (a := ⟨x3, 0, none⟩) (.int .u64 hv) (.inl rfl)
  have h5 := h4.tch ht5 (fun e => a3.2.2.1 e.symm) (fun k hk e => a3.2.1 (e ▸ hk)) (fun k e => e ▸ ⟨a3.1, a3.2.2.2⟩)
  have hT5 : Tch (fun r => (I.ft r ∨ B.own r) ∨ r = x3) w (w4.setCell ⟨x3, 0, none⟩ (.int .u64 hv)) := hT4.trans' ht5 (fun j _ hj => .inr hj)
  have q0 : (w4.setCell ⟨x3, 0, none⟩ (.int .u64 hv)).cell? ⟨x0, 0, none⟩ = some (.pointer (some ⟨Z.b, 0, none⟩)) := z05.cell 0 rfl
  go_wp2_with (go_at_call 70; fail)
  refine (set_at h5 hx hl).mono ?_
  rintro e w6 ⟨rfl, ht6, a', h6, hr6⟩
  rw [← HDD.out] at hr6
  go_wp2
  refine bodyPost_ret (v := .int .i64 0) ?_ rfl ⟨rfl, hT5.trans' ht6 (fun j _ hj => .inl (.inl hj)), a', h6, (ht6.block _ z35.lt a3.1).trans z35, hr6⟩
  simp [results, Tryz.results102, go_sem]
end
end Go.Proofs.YtkndlfdpmpdihaaGreatDoor
namespace Go.Proofs.YtkndlfdpmpdihaaGreatDoor
open Go.RowKit Go.Ev Go.Mv
set_option linter.unusedVariables false
set_option linter.unusedSimpArgs false
set_option maxRecDepth 100000
section
variable {I : BI} {B : WB} {Z : SB} {a : I.A} {S : WS} {w w' : World}
theorem SvcAt.away (h : SvcAt I B Z a S w) {x : Nat} (hx : w.heap.size ≤ x) : Away I B Z x := by
  have hl := h.wheel.lt
  have hz := h.lt
  have h8 := h.hi B.b (.inl (.inl rfl))
  refine ⟨fun e => ?_, ?_, ?_, ?_⟩
  · have := I.lt h.board x e
    omega
  · rintro ((e | (e | e | e) | (e | e)) | e | e) <;> omega
  · omega
  · omega
set_option maxHeartbeats 4000000 in
theorem add_full (h : SvcAt I B Z a S w) (hf : Z.room ≤ S.p.n) {p : Nat} {f : Nat} {caps : Array Value} : Calls Tryz.prog 61 #[.pointer (some ⟨Z.b, 0, none⟩), .int .u64 p, .func (.func f) #[] caps] w fun e w' =>
    e = .returned (.tuple #[.int .u64 0, .int .i64 8]) ∧ Tch I.ft w w' ∧ SvcAt I B Z a S w' := by
  have hsz4 : (((((w.alloc (.cells #[.pointer (some ⟨Z.b, 0, none⟩)] 57)).alloc (.cells #[.int .u64 p] 37)).alloc (.cells #[.func (.func f) #[] caps] 135)).alloc (.cells #[.int .u64 0] 37))).heap.size = w.heap.size + 4 := by simp
  have hB4 : Below w.heap.size w ((((w.alloc (.cells #[.pointer (some ⟨Z.b, 0, none⟩)] 57)).alloc (.cells #[.int .u64 p] 37)).alloc (.cells #[.func (.func f) #[] caps] 135)).alloc (.cells #[.int .u64 0] 37)) := ((((Below.refl _ w).alloc (Nat.le_refl _) _).alloc (by simp) _).alloc (by simp; omega) _).alloc (by simp; omega) _
  have z0 : Blk ((((w.alloc (.cells #[.pointer (some ⟨Z.b, 0, none⟩)] 57)).alloc (.cells #[.int .u64 p] 37)).alloc (.cells #[.func (.func f) #[] caps] 135)).alloc (.cells #[.int .u64 0] 37)) w.heap.size #[.pointer (some ⟨Z.b, 0, none⟩)] 57 := (((Blk.new w _ _).alloc _).alloc _).alloc _
  have z2 : Blk ((((w.alloc (.cells #[.pointer (some ⟨Z.b, 0, none⟩)] 57)).alloc (.cells #[.int .u64 p] 37)).alloc (.cells #[.func (.func f) #[] caps] 135)).alloc (.cells #[.int .u64 0] 37)) (w.heap.size + 1) #[.int .u64 p] 37 := by
    have := ((Blk.new (w.alloc (.cells #[.pointer (some ⟨Z.b, 0, none⟩)] 57)) #[.int .u64 (p : Int)] 37).alloc (.cells #[.func (.func f) #[] caps] 135)).alloc (.cells #[.int .u64 0] 37)
    simpa using this
  have z1 : Blk ((((w.alloc (.cells #[.pointer (some ⟨Z.b, 0, none⟩)] 57)).alloc (.cells #[.int .u64 p] 37)).alloc (.cells #[.func (.func f) #[] caps] 135)).alloc (.cells #[.int .u64 0] 37)) (w.heap.size + 1 + 1) #[.func (.func f) #[] caps] 135 := by
    have := (Blk.new ((w.alloc (.cells #[.pointer (some ⟨Z.b, 0, none⟩)] 57)).alloc (.cells #[.int .u64 p] 37)) #[.func (.func f) #[] caps] 135).alloc (.cells #[.int .u64 0] 37)
    simpa using this
  have z3 : Blk ((((w.alloc (.cells #[.pointer (some ⟨Z.b, 0, none⟩)] 57)).alloc (.cells #[.int .u64 p] 37)).alloc (.cells #[.func (.func f) #[] caps] 135)).alloc (.cells #[.int .u64 0] 37)) (w.heap.size + 1 + 1 + 1) #[.int .u64 0] 37 := by
    have := Blk.new (((w.alloc (.cells #[.pointer (some ⟨Z.b, 0, none⟩)] 57)).alloc (.cells #[.int .u64 p] 37)).alloc (.cells #[.func (.func f) #[] caps] 135)) #[.int .u64 0] 37
    simpa using this
  have h4 := h.below hB4
  have hy0 := h.away (Nat.le_refl _)
  have hy3 := h.away (x := w.heap.size + 1 + 1 + 1) (by omega)
  go_enter Tryz.func61, Tryz.ntmps61
  go_wp2_with (go_at_call 65; fail)
  generalize ((((w.alloc (.cells #[.pointer (some ⟨Z.b, 0, none⟩)] 57)).alloc (.cells #[.int .u64 p] 37)).alloc (.cells #[.func (.func f) #[] caps] 135)).alloc (.cells #[.int .u64 0] 37)) = w4 at *
  refine (call_at (I := I) h4 (f := 102) (caps := #[.pointer (some ⟨w.heap.size, 0, none⟩), .pointer (some ⟨w.heap.size + 1 + 1, 0, none⟩), .pointer (some ⟨w.heap.size + 1, 0, none⟩), .pointer (some ⟨w.heap.size + 1 + 1 + 1, 0, none⟩)]) (k := 8) (X := fun _ => False) (S' := S) (P := fun a' wx => a' = a ∧ Blk wx (w.heap.size + 1 + 1 + 1) #[.int .u64 0] 37) (fun w => by kernel_rfl)
    (fun w1 ht1 hs1 => (add1_full hs1 hf ((ht1.block _ z0.lt hy0.1).trans z0)).mono fun e w2 hx => ⟨hx.1, Tch.of_below hx.2, a, hs1.below hx.2, rfl, Blk.below ((ht1.block _ z3.lt hy3.1).trans z3) hx.2 (by have := ht1.size; have := z3.lt; omega)⟩)
    (fun a' w1 w2 hp ht => ⟨hp.1, (ht.block _ hp.2.lt hy3.1).trans hp.2⟩)).mono ?_
  rintro e w5 ⟨rfl, ht5, a', h5, rfl, z5⟩
  go_wp2
  refine bodyPost_ret (v := .tuple #[.int .u64 0, .int .i64 8]) ?_ rfl ⟨rfl, (Tch.of_below hB4).trans' ht5 (fun j _ hj => hj.elim id False.elim), h5⟩
  simp [results, Tryz.results61, go_sem]
set_option maxHeartbeats 4000000 in
theorem add_ok (h : SvcAt I B Z a S w) (hf : S.p.n < Z.room) {p y d hv v : Nat} {b : Bool} {S' : WS} (hy : Blk w y #[.int .u64 d] 37) (ay : Away I B Z y) (hA : Ad B S d p hv S') (hx : Nx B S' v b) (hl : 3 ≤ I.left a) : Calls Tryz.prog 61 #[.pointer (some ⟨Z.b, 0, none⟩), .int .u64 p, .func (.func 62) #[] #[.pointer (some ⟨y, 0, none⟩)]] w fun e w' =>
    e = .returned (.tuple #[.int .u64 hv, .int .i64 0]) ∧ Tch (fun r => I.ft r ∨ B.own r) w w' ∧ ∃ a', SvcAt I B Z a' S' w' ∧ ((a' = a ∧ I.armed a = if b then v else 18446744073709551615) ∨ I.R a (if b then v else 18446744073709551615) a') := by
  have hsz4 : (((((w.alloc (.cells #[.pointer (some ⟨Z.b, 0, none⟩)] 57)).alloc (.cells #[.int .u64 p] 37)).alloc (.cells #[.func (.func 62) #[] #[.pointer (some ⟨y, 0, none⟩)]] 135)).alloc (.cells #[.int .u64 0] 37))).heap.size = w.heap.size + 4 := by simp
  have hB4 : Below w.heap.size w ((((w.alloc (.cells #[.pointer (some ⟨Z.b, 0, none⟩)] 57)).alloc (.cells #[.int .u64 p] 37)).alloc (.cells #[.func (.func 62) #[] #[.pointer (some ⟨y, 0, none⟩)]] 135)).alloc (.cells #[.int .u64 0] 37)) := ((((Below.refl _ w).alloc (Nat.le_refl _) _).alloc (by simp) _).alloc (by simp; omega) _).alloc (by simp; omega) _
  have z0 : Blk ((((w.alloc (.cells #[.pointer (some ⟨Z.b, 0, none⟩)] 57)).alloc (.cells #[.int .u64 p] 37)).alloc (.cells #[.func (.func 62) #[] #[.pointer (some ⟨y, 0, none⟩)]] 135)).alloc (.cells #[.int .u64 0] 37)) w.heap.size #[.pointer (some ⟨Z.b, 0, none⟩)] 57 := (((Blk.new w _ _).alloc _).alloc _).alloc _
  have z2 : Blk ((((w.alloc (.cells #[.pointer (some ⟨Z.b, 0, none⟩)] 57)).alloc (.cells #[.int .u64 p] 37)).alloc (.cells #[.func (.func 62) #[] #[.pointer (some ⟨y, 0, none⟩)]] 135)).alloc (.cells #[.int .u64 0] 37)) (w.heap.size + 1) #[.int .u64 p] 37 := by
    have := ((Blk.new (w.alloc (.cells #[.pointer (some ⟨Z.b, 0, none⟩)] 57)) #[.int .u64 (p : Int)] 37).alloc (.cells #[.func (.func 62) #[] #[.pointer (some ⟨y, 0, none⟩)]] 135)).alloc (.cells #[.int .u64 0] 37)
    simpa using this
  have z1 : Blk ((((w.alloc (.cells #[.pointer (some ⟨Z.b, 0, none⟩)] 57)).alloc (.cells #[.int .u64 p] 37)).alloc (.cells #[.func (.func 62) #[] #[.pointer (some ⟨y, 0, none⟩)]] 135)).alloc (.cells #[.int .u64 0] 37)) (w.heap.size + 1 + 1) #[.func (.func 62) #[] #[.pointer (some ⟨y, 0, none⟩)]] 135 := by
    have := (Blk.new ((w.alloc (.cells #[.pointer (some ⟨Z.b, 0, none⟩)] 57)).alloc (.cells #[.int .u64 p] 37)) #[.func (.func 62) #[] #[.pointer (some ⟨y, 0, none⟩)]] 135).alloc (.cells #[.int .u64 0] 37)
    simpa using this
  have z3 : Blk ((((w.alloc (.cells #[.pointer (some ⟨Z.b, 0, none⟩)] 57)).alloc (.cells #[.int .u64 p] 37)).alloc (.cells #[.func (.func 62) #[] #[.pointer (some ⟨y, 0, none⟩)]] 135)).alloc (.cells #[.int .u64 0] 37)) (w.heap.size + 1 + 1 + 1) #[.int .u64 0] 37 := by
    have := Blk.new (((w.alloc (.cells #[.pointer (some ⟨Z.b, 0, none⟩)] 57)).alloc (.cells #[.int .u64 p] 37)).alloc (.cells #[.func (.func 62) #[] #[.pointer (some ⟨y, 0, none⟩)]] 135)) #[.int .u64 0] 37
    simpa using this
  have h4 := h.below hB4
  have hy0 := h.away (Nat.le_refl _)
  have hy1 := h.away (x := w.heap.size + 1 + 1) (by omega)
  have hy2 := h.away (x := w.heap.size + 1) (by omega)
  have hy3 := h.away (x := w.heap.size + 1 + 1 + 1) (by omega)
  have hy4 := hy.below hB4 hy.lt
  obtain ⟨dd, hdd⟩ : ∃ dd, dd = if b then v else 18446744073709551615 := ⟨_, rfl⟩
  rw [← hdd]
  have HDD := Lib.hid hdd
  clear hdd
  go_enter Tryz.func61, Tryz.ntmps61
  go_wp2_with (go_at_call 65; fail)
  generalize ((((w.alloc (.cells #[.pointer (some ⟨Z.b, 0, none⟩)] 57)).alloc (.cells #[.int .u64 p] 37)).alloc (.cells #[.func (.func 62) #[] #[.pointer (some ⟨y, 0, none⟩)]] 135)).alloc (.cells #[.int .u64 0] 37)) = w4 at *
  refine (call_at (I := I) h4 (f := 102) (caps := #[.pointer (some ⟨w.heap.size, 0, none⟩), .pointer (some ⟨w.heap.size + 1 + 1, 0, none⟩), .pointer (some ⟨w.heap.size + 1, 0, none⟩), .pointer (some ⟨w.heap.size + 1 + 1 + 1, 0, none⟩)]) (k := 0) (X := fun r => (I.ft r ∨ B.own r) ∨ r = w.heap.size + 1 + 1 + 1) (S' := S') (P := fun a' wx => Blk wx (w.heap.size + 1 + 1 + 1) #[.int .u64 hv] 37 ∧ ((a' = a ∧ I.armed a = dd) ∨ I.R a dd a')) (fun w => by kernel_rfl)
    (fun w1 ht1 hs1 => (add1_ok hs1 hf ((ht1.block _ z0.lt hy0.1).trans z0) ((ht1.block _ z1.lt hy1.1).trans z1) ((ht1.block _ z2.lt hy2.1).trans z2) ((ht1.block _ z3.lt hy3.1).trans z3) ((ht1.block _ hy4.lt ay.1).trans hy4) hy0 hy3 hA hx hl).mono fun e w2 hx => by rw [← HDD.out] at hx; exact hx)
    (fun a' w1 w2 hp ht => ⟨(ht.block _ hp.1.lt hy3.1).trans hp.1, hp.2⟩)).mono ?_
  rintro e w5 ⟨rfl, ht5, a', h5, z5, hr5⟩
  have q5 : w5.cell? ⟨w.heap.size + 1 + 1 + 1, 0, none⟩ = some (.int .u64 hv) := z5.cell 0 rfl
  go_wp2
  refine bodyPost_ret (v := .tuple #[.int .u64 hv, .int .i64 0]) ?_ rfl ⟨rfl, (Tch.of_below hB4).trans' ht5 ?_, a', h5, hr5⟩
  · simp [results, Tryz.results61, go_sem]
  · rintro j hj (e | (e | e) | e)
    · exact .inl e
    · exact .inl e
    · exact .inr e
    · omega
end
end Go.Proofs.YtkndlfdpmpdihaaGreatDoor
namespace Go.Proofs.YtkndlfdpmpdihaaGreatDoor
open Go.RowKit Go.Ev Go.Mv
set_option linter.unusedVariables false
set_option linter.unusedSimpArgs false
set_option maxRecDepth 100000
section
variable {I : BI} {B : WB} {Z : SB} {a : I.A} {S : WS} {w w' : World}
theorem sat_full (h : SvcAt I B Z a S w) (hf : Z.room ≤ S.p.n) {d p : Nat} : Calls Tryz.prog 26 #[.pointer (some ⟨Z.b, 0, none⟩), .int .u64 d, .int .u64 p] w fun e w' =>
    e = .returned (.tuple #[.int .u64 0, .int .i64 8]) ∧ Tch I.ft w w' ∧ SvcAt I B Z a S w' := by
  have hB : Below w.heap.size w (w.alloc (.cells #[.int .u64 d] 37)) := (Below.refl _ w).alloc (Nat.le_refl _) _
  have h1 := h.below hB
  go_enter Tryz.func26, Tryz.ntmps26
  go_wp2_with (go_at_call 61; fail)
  refine (add_full h1 hf).mono ?_
  rintro e w2 ⟨rfl, ht2, h2⟩
  go_wp2
  refine bodyPost_ret (v := .tuple #[.int .u64 0, .int .i64 8]) ?_ rfl ⟨rfl, (Tch.of_below hB).trans ht2, h2⟩
  simp [results, Tryz.results26, go_sem]
theorem sat_ok (h : SvcAt I B Z a S w) (hf : S.p.n < Z.room) {p d hv v : Nat} {b : Bool} {S' : WS} (hA : Ad B S d p hv S') (hx : Nx B S' v b) (hl : 3 ≤ I.left a) : Calls Tryz.prog 26 #[.pointer (some ⟨Z.b, 0, none⟩), .int .u64 d, .int .u64 p] w fun e w' =>
    e = .returned (.tuple #[.int .u64 hv, .int .i64 0]) ∧ Tch (fun r => I.ft r ∨ B.own r) w w' ∧ ∃ a', SvcAt I B Z a' S' w' ∧ ((a' = a ∧ I.armed a = if b then v else 18446744073709551615) ∨ I.R a (if b then v else 18446744073709551615) a') := by
  have hB : Below w.heap.size w (w.alloc (.cells #[.int .u64 d] 37)) := (Below.refl _ w).alloc (Nat.le_refl _) _
  have hy := Blk.new w #[.int .u64 (d : Int)] 37
  have h1 := h.below hB
  have ay := h.away (Nat.le_refl _)
  obtain ⟨dd, hdd⟩ : ∃ dd, dd = if b then v else 18446744073709551615 := ⟨_, rfl⟩
  have hadd := add_ok h1 hf hy ay hA hx hl
  rw [← hdd] at hadd ⊢
  clear hdd
  go_enter Tryz.func26, Tryz.ntmps26
  go_wp2_with (go_at_call 61; fail)
  refine hadd.mono ?_
  rintro e w2 ⟨rfl, ht2, a', h2, hr2⟩
  go_wp2
  refine bodyPost_ret (v := .tuple #[.int .u64 hv, .int .i64 0]) ?_ rfl ⟨rfl, (Tch.of_below hB).trans ht2, a', h2, hr2⟩
  simp [results, Tryz.results26, go_sem]
theorem after_full (h : SvcAt I B Z a S w) (hf : Z.room ≤ S.p.n) {d p : Nat} : Calls Tryz.prog 33 #[.pointer (some ⟨Z.b, 0, none⟩), .int .u64 d, .int .u64 p] w fun e w' =>
    e = .returned (.tuple #[.int .u64 0, .int .i64 8]) ∧ Tch I.ft w w' ∧ SvcAt I B Z a S w' := by
  have hB : Below w.heap.size w ((w.alloc (.cells #[.pointer (some ⟨Z.b, 0, none⟩)] 57)).alloc (.cells #[.int .u64 d] 37)) := ((Below.refl _ w).alloc (Nat.le_refl _) _).alloc (by simp) _
  have h1 := h.below hB
  go_enter Tryz.func33, Tryz.ntmps33
  go_wp2_with (go_at_call 61; fail)
  refine (add_full h1 hf).mono ?_
  rintro e w2 ⟨rfl, ht2, h2⟩
  go_wp2
  refine bodyPost_ret (v := .tuple #[.int .u64 0, .int .i64 8]) ?_ rfl ⟨rfl, (Tch.of_below hB).trans ht2, h2⟩
  simp [results, Tryz.results33, go_sem]
/-- What the wheel's Cancel does. -/
def Cn (B : WB) (S : WS) (hv : Nat) (S' : WS) : Prop := ∀ w, WheelAt B S w → Calls Tryz.prog 77 #[.pointer (some ⟨B.b, 0, none⟩), .int .u64 hv] w fun e w' =>
  e = .returned (.bool true) ∧ Tch B.own w w' ∧ WheelAt B S' w'
/-- The worlds about Cancel's first statement. -/
def CnE (B : WB) (S' : WS) (x2 : Nat) (w0 : World) : Nat → World → Prop
  | 0, w => Below w0.heap.size w0 w
  | 1, w => Tch B.own w0 w ∧ WheelAt B S' w
  | _, w => Tch (fun r => B.own r ∨ r = x2) w0 w ∧ WheelAt B S' w ∧ Blk w x2 #[.bool true] 4
theorem CnE.tch {S' : WS} {x2 : Nat} {w0 w : World} {b : Nat} (h : CnE B S' x2 w0 b w) : Tch (fun r => B.own r ∨ r = x2) w0 w := by
  match b with
  | 0 => exact Tch.of_below h
  | 1 => exact h.1.mono fun r hr => .inl hr
  | _ + 2 => exact h.1
theorem CnE.cell {S' : WS} {x2 : Nat} {w0 : World} {k : Nat} {T : TypeId} {cs : Array Value} (hk : Blk w0 k cs T) (h1 : ¬ B.own k) (h2 : k ≠ x2) (j : Nat) {v : Value} (hv : cs[j]? = some v) : ∀ x : Thr (CnE B S' x2 w0), x.w.cell? ⟨k, j, none⟩ = some v := fun x =>
  Blk.cell ((x.h.tch.block _ hk.lt (fun e => e.elim h1 h2)).trans hk) j hv
theorem lexT_callT1 {P : Program} {ops : Array Oper} {E : Nat → World → Prop} {s1 s2 : Nat} {Q : Act → Prop} {o : Oper} {l : List Oper} {k : Nat} {a : Act} (hw : Region.wanted o (yielded ops a.tmps) = true) (hk : k = s1) {f : FuncId} {args : Array Value} {v : Value} (ho : ∀ w, (execOp a.eval o).run P w = .ok (.enter f args) w)
    (hc : ∀ w, E 0 w → Calls P f args w fun e w' => e = .returned v ∧ E 1 w') (h : lexT P ops E s1 s2 Q l (k + 1) (a.put o.dst v)) : lexT P ops E s1 s2 Q (o :: l) k a := by
  refine lexT_turn1 hw hk v (fun w hE => ?_) h
  unfold does
  rw [ho]
  exact hc w hE
set_option maxHeartbeats 4000000 in
theorem can1_ok (h : SvcAt I B Z a S w) {x0 x1 x2 : Nat} {hv v : Nat} {b : Bool} {S' : WS} (h0 : Blk w x0 #[.pointer (some ⟨Z.b, 0, none⟩)] 57) (h1 : Blk w x1 #[.int .u64 hv] 37) (h2 : Blk w x2 #[.bool false] 4)
    (a0 : Away I B Z x0) (a1 : Away I B Z x1) (a2 : Away I B Z x2) (hC : Cn B S hv S') (hx : Nx B S' v b) (hl : 3 ≤ I.left a) :
    Calls Tryz.prog 76 #[.pointer (some ⟨x0, 0, none⟩), .pointer (some ⟨x1, 0, none⟩), .pointer (some ⟨x2, 0, none⟩)] w fun e w' => e = .returned (.int .i64 0) ∧ Tch (fun r => (I.ft r ∨ B.own r) ∨ r = x2) w w' ∧
      ∃ a', SvcAt I B Z a' S' w' ∧ (Blk w' x2 #[.bool true] 4 ∧ ((a' = a ∧ I.armed a = if b then v else 18446744073709551615) ∨ I.R a (if b then v else 18446744073709551615) a')) := by
  obtain ⟨dd, hdd⟩ : ∃ dd, dd = if b then v else 18446744073709551615 := ⟨_, rfl⟩
  rw [← hdd]
  have HDD := Lib.hid hdd
  clear hdd
  have n02 : x0 ≠ x2 := Blk.ne_ h0 h2 (by decide)
  have n12 : x1 ≠ x2 := Blk.ne_ h1 h2 (by decide)
  have hw := h.wheel
  have hlw := hw.lt
  haveI : Nonempty (Thr (CnE B S' x2 w)) := ⟨⟨0, w, Below.refl _ _⟩⟩
  have c0 : ∀ x : Thr (CnE B S' x2 w), x.w.cell? ⟨x0, 0, none⟩ = some (.pointer (some ⟨Z.b, 0, none⟩)) := CnE.cell (B := B) (S' := S') h0 (fun e => a0.2.1 (.inl e)) n02 0 rfl
  have c1 : ∀ x : Thr (CnE B S' x2 w), x.w.cell? ⟨x1, 0, none⟩ = some (.int .u64 hv) := CnE.cell (B := B) (S' := S') h1 (fun e => a1.2.1 (.inl e)) n12 0 rfl
  have c2 : ∀ x : Thr (CnE B S' x2 w), x.w.cell? ⟨Z.b, 0, none⟩ = some (.pointer (some ⟨B.b, 0, none⟩)) := CnE.cell (B := B) (S' := S') (x2 := x2) h.blk (fun e => h.own (.inl e)) (fun e => a2.2.2.1 e.symm) 0 rfl
  go_enter Tryz.func76, Tryz.ntmps76
  go_wp2
  refine wp_region_thr (CnE B S' x2 w) 6 7 (by decide) (by kernel_rfl) (by kernel_rfl) (Below.refl _ _).drew ?_
  (repeat (first | (refine lexT_skip (by rfl) (by decide) ?_; simp only [Act.put, List.setIfInBounds_toArray, List.set_cons_succ, List.set_cons_zero]) | (refine lexT_want (by rfl) (by decide) (by rfl) ?_; intro K hK; go_big_quiet_op; refine hK _ ?_; clear hK K)))
  refine lexT_callT1 (f := 77) (args := #[.pointer (some ⟨B.b, 0, none⟩), .int .u64 hv]) (v := .bool true) (by rfl) (by rfl) (fun w => by kernel_rfl) (fun W hW => ((hC W (hw.below hW hlw)).mono fun e w' hx => ⟨hx.1, (Tch.of_below hW).trans hx.2.1, hx.2.2⟩)) ?_
  simp only [Act.put, List.setIfInBounds_toArray, List.set_cons_succ, List.set_cons_zero]
  refine lexT_turn2 (by rfl) (by rfl) (by decide) undef (fun W hW => ?_) ?_
  · have hb : Blk W x2 #[.bool false] 4 := (hW.1.block _ h2.lt (fun e => a2.2.1 (.inl e))).trans h2
    have q0 : W.cell? ⟨x2, 0, none⟩ = some (.bool false) := hb.cell 0 rfl
    have f0 := hb.free 0
    unfold does
    go_simp
    exact ⟨⟨(hW.1.mono fun r hr => .inl hr).setCell _ (.inl (.inr rfl)), hW.2.tch ((Tch.refl (fun r => r = x2) W).setCell (a := ⟨x2, 0, none⟩) (.bool true) (.inl rfl)) (fun k hk e => a2.2.1 (e ▸ hk)), hb.set 0 _⟩, rfl⟩
  simp only [Act.put, List.setIfInBounds_toArray, List.set_cons_succ, List.set_cons_zero]
  (repeat (first | (refine lexT_skip (by rfl) (by decide) ?_; simp only [Act.put, List.setIfInBounds_toArray, List.set_cons_succ, List.set_cons_zero]) | (refine lexT_want (by rfl) (by decide) (by rfl) ?_; intro K hK; go_big_quiet_op; refine hK _ ?_; clear hK K)))
  intro w3 hw3
  obtain ⟨ht3, hw3', hb3⟩ := hw3
  have h3 : SvcAt I B Z a S' w3 := ⟨(ht3.block _ h.lt (fun e => e.elim (fun e => h.own (.inl e)) (fun e => a2.2.2.1 e.symm))).trans h.blk, hw3', I.keep h.board ht3 (fun k hk => hk.elim (fun e => ⟨h.outs k (.inl e), h.hi k (.inl e)⟩) (fun e => e ▸ ⟨a2.1, a2.2.2.2⟩)), h.out, h.outs, h.own, h.hi⟩
  have z0 : Blk w3 x0 #[.pointer (some ⟨Z.b, 0, none⟩)] 57 := (ht3.block _ h0.lt (fun e => e.elim (fun e => a0.2.1 (.inl e)) n02)).trans h0
  have q0 : w3.cell? ⟨x0, 0, none⟩ = some (.pointer (some ⟨Z.b, 0, none⟩)) := z0.cell 0 rfl
  have q2 : w3.cell? ⟨x2, 0, none⟩ = some (.bool true) := hb3.cell 0 rfl
  clear c0 c1 c2
  go_wp2_with (go_at_call 70; fail)
  refine (set_at h3 hx hl).mono ?_
  rintro e w6 ⟨rfl, ht6, a', h6, hr6⟩
  rw [← HDD.out] at hr6
  go_wp2
  refine bodyPost_ret (v := .int .i64 0) ?_ rfl ⟨rfl, (ht3.mono fun r hr => hr.elim (fun e => .inl (.inr e)) .inr).trans (ht6.mono fun r hr => .inl (.inl hr)), a', h6, (ht6.block _ hb3.lt a2.1).trans hb3, hr6⟩
  simp [results, Tryz.results76, go_sem]
end
end Go.Proofs.YtkndlfdpmpdihaaGreatDoor
namespace Go.Proofs.YtkndlfdpmpdihaaGreatDoor
open Go.RowKit Go.Ev Go.Mv
set_option linter.unusedVariables false
set_option linter.unusedSimpArgs false
set_option maxRecDepth 100000
section
variable {B : WB} {S : WS} {ls : Int × Int → List Nat}
theorem occSet_lt {m : Nat → Nat} (hm : ∀ i, m i < 18446744073709551616) {k : Int × Int} (hk : (k.1 < 0 ∨ 8 ≤ k.1) ∨ slotK k) (i : Nat) : occSet m k i < 18446744073709551616 := by
  unfold occSet
  split
  · exact hm i
  · rename_i h
    rcases hk with hk | hk
    · exact absurd hk h
    · obtain ⟨x, y, hke, hx, hy⟩ := hk
      by_cases e : i = k.1.toNat
      · rw [e, fset_same]
        have h1 := hm k.1.toNat
        have h2 : 2 ^ k.2.toNat < 2 ^ 64 := Nat.pow_lt_pow_right (by omega) (by rw [hke]; simp only [Int.toNat_natCast]; exact hy)
        exact Nat.or_lt_two_pow (n := 64) h1 h2
      · rw [fset_ne _ _ e]
        exact hm i
theorem occDrop_lt {m : Nat → Nat} (hm : ∀ i, m i < 18446744073709551616) (k : Int × Int) (i : Nat) : occDrop m k i < 18446744073709551616 := by
  unfold occDrop
  split
  · exact hm i
  · by_cases e : i = k.1.toNat
    · rw [e, fset_same]
      exact Nat.lt_of_le_of_lt Nat.and_le_left (hm _)
    · rw [fset_ne _ _ e]
      exact hm i
theorem WOk.add (h : WOk B S ls) (hT2 : ¬ B.own 2) {a nw : Nat} (hw : S.p.word + nw = 18446744073709551615) (hf : firstN nw 0 = (a : Int)) (ha : a < 64) (hr : a < B.p.room) (hc : a < B.c.room) (hn : S.p.ent a = none) (hg : S.p.gen a < 4294967295)
    {d p : Nat} (hd : d < 18446744073709551616) (hb : S.base < 18446744073709551616) (ho : S.order < 4294967296) (hout : ∀ k, a ∉ ls k) :
    Ad B S d p (hN S.p a) (S.add a d p) ∧ WOk B (S.add a d p) (fset ls (placeOf S.base d) (ls (placeOf S.base d) ++ [a])) := by
  have hroom := h.room
  refine ⟨fun w hW hT => add_at hW hT hT2 hw hf ha hr hn hg hd hb ho h.m (h.ch.pushOk (by omega) hc hout), h.ch.push hc hout, ?_, fun i => occSet_lt h.m (placeOf_key _ _) i, h.room⟩
  intro k a' ha'
  have hcase : a' ∈ ls k ∨ a' = a := by
    by_cases e : k = placeOf S.base d
    · rw [e, fset_same] at ha'
      simp only [List.mem_append, List.mem_singleton] at ha'
      exact ha'.imp (fun h => e ▸ h) id
    · rw [fset_ne _ _ e] at ha'
      exact .inl ha'
  by_cases e : a' = a
  · subst e
    exact ⟨⟨d, p, S.order⟩, ⟨fset_same _ _ _, by omega, hg⟩, hd⟩
  · obtain ⟨t, hL, ht⟩ := h.live k a' (hcase.resolve_right e)
    exact ⟨t, ⟨(fset_ne _ _ e).trans hL.ent, hL.lt, hL.gen⟩, ht⟩
theorem WOk.cancel (h : WOk B S ls) {k : Int × Int} {a : Nat} {l : List Nat} (hk : ls k = a :: l) {t : Tm} (hL : LiveAt S.p a t) (ha : a < 64) (hw : S.p.word < 18446744073709551616) (hko : (k.1 < 0 ∨ 8 ≤ k.1) ∨ slotK k) :
    Cn B S (hN S.p a) (S.cancel a) ∧ WOk B (S.cancel a) (fset ls k l) := by
  have hi := h.ch.at_ hk
  have hroom := h.room
  refine ⟨fun w hW => cancel_at hW hL ha hw h.m (h.ch.popOk (by omega) hk) (by rw [hi]; exact hko), h.ch.pop hk, ?_, ?_, h.room⟩
  · intro k' a' ha'
    have h1 : a' ∈ ls k' := by
      by_cases e : k' = k
      · rw [e, fset_same] at ha'
        rw [e, hk]
        simp [ha']
      · rw [fset_ne _ _ e] at ha'
        exact ha'
    have h2 : a' ≠ a := by
      rintro rfl
      have e := h.ch.disj k' k a' h1 (by rw [hk]; simp)
      subst e
      rw [fset_same] at ha'
      have hn := h.ch.nodup k'
      rw [hk] at hn
      exact (List.nodup_cons.1 hn).1 ha'
    obtain ⟨t', hL', ht'⟩ := h.live k' a' h1
    exact ⟨t', ⟨(fset_ne _ _ h2).trans hL'.ent, hL'.lt, by show fset S.p.gen a (S.p.gen a + 1) a' < _; rw [fset_ne _ _ h2]; exact hL'.gen⟩, ht'⟩
  · intro i
    show leftM (S.popped a) _ i < _
    unfold leftM
    split
    · exact occDrop_lt h.m _ i
    · exact h.m i
end
end Go.Proofs.YtkndlfdpmpdihaaGreatDoor
namespace Go.Proofs.YtkndlfdpmpdihaaGreatDoor
open Go.RowKit Go.Ev Go.Mv
set_option linter.unusedVariables false
set_option linter.unusedSimpArgs false
set_option maxRecDepth 100000
section
variable {I : BI} {B : WB} {Z : SB} {a : I.A} {S : WS} {w w' : World}
set_option maxHeartbeats 4000000 in
theorem scancel_ok (h : SvcAt I B Z a S w) {hv v : Nat} {b : Bool} {S' : WS} (hC : Cn B S hv S') (hx : Nx B S' v b) (hl : 3 ≤ I.left a) : Calls Tryz.prog 34 #[.pointer (some ⟨Z.b, 0, none⟩), .int .u64 hv] w fun e w' =>
    e = .returned (.tuple #[.bool true, .int .i64 0]) ∧ Tch (fun r => I.ft r ∨ B.own r) w w' ∧ ∃ a', SvcAt I B Z a' S' w' ∧ ((a' = a ∧ I.armed a = if b then v else 18446744073709551615) ∨ I.R a (if b then v else 18446744073709551615) a') := by
  have hB4 : Below w.heap.size w (((w.alloc (.cells #[.pointer (some ⟨Z.b, 0, none⟩)] 57)).alloc (.cells #[.int .u64 hv] 37)).alloc (.cells #[.bool false] 4)) := (((Below.refl _ w).alloc (Nat.le_refl _) _).alloc (by simp) _).alloc (by simp; omega) _
  have z0 : Blk (((w.alloc (.cells #[.pointer (some ⟨Z.b, 0, none⟩)] 57)).alloc (.cells #[.int .u64 hv] 37)).alloc (.cells #[.bool false] 4)) w.heap.size #[.pointer (some ⟨Z.b, 0, none⟩)] 57 := ((Blk.new w _ _).alloc _).alloc _
  have z1 : Blk (((w.alloc (.cells #[.pointer (some ⟨Z.b, 0, none⟩)] 57)).alloc (.cells #[.int .u64 hv] 37)).alloc (.cells #[.bool false] 4)) (w.heap.size + 1) #[.int .u64 hv] 37 := by
    have := (Blk.new (w.alloc (.cells #[.pointer (some ⟨Z.b, 0, none⟩)] 57)) #[.int .u64 (hv : Int)] 37).alloc (.cells #[.bool false] 4)
    simpa using this
  have z2 : Blk (((w.alloc (.cells #[.pointer (some ⟨Z.b, 0, none⟩)] 57)).alloc (.cells #[.int .u64 hv] 37)).alloc (.cells #[.bool false] 4)) (w.heap.size + 1 + 1) #[.bool false] 4 := by
    have := Blk.new ((w.alloc (.cells #[.pointer (some ⟨Z.b, 0, none⟩)] 57)).alloc (.cells #[.int .u64 hv] 37)) #[.bool false] 4
    simpa using this
  have h4 := h.below hB4
  have hy0 := h.away (Nat.le_refl _)
  have hy1 := h.away (x := w.heap.size + 1) (by omega)
  have hy2 := h.away (x := w.heap.size + 1 + 1) (by omega)
  obtain ⟨dd, hdd⟩ : ∃ dd, dd = if b then v else 18446744073709551615 := ⟨_, rfl⟩
  rw [← hdd]
  have HDD := Lib.hid hdd
  clear hdd
  go_enter Tryz.func34, Tryz.ntmps34
  go_wp2_with (go_at_call 65; fail)
  generalize ((w.alloc (.cells #[.pointer (some ⟨Z.b, 0, none⟩)] 57)).alloc (.cells #[.int .u64 hv] 37)).alloc (.cells #[.bool false] 4) = w4 at *
  refine (call_at (I := I) h4 (f := 76) (caps := #[.pointer (some ⟨w.heap.size, 0, none⟩), .pointer (some ⟨w.heap.size + 1, 0, none⟩), .pointer (some ⟨w.heap.size + 1 + 1, 0, none⟩)]) (k := 0) (X := fun r => (I.ft r ∨ B.own r) ∨ r = w.heap.size + 1 + 1) (S' := S') (P := fun a' wx => Blk wx (w.heap.size + 1 + 1) #[.bool true] 4 ∧ ((a' = a ∧ I.armed a = dd) ∨ I.R a dd a')) (fun w => by kernel_rfl)
    (fun w1 ht1 hs1 => (can1_ok hs1 ((ht1.block _ z0.lt hy0.1).trans z0) ((ht1.block _ z1.lt hy1.1).trans z1) ((ht1.block _ z2.lt hy2.1).trans z2) hy0 hy1 hy2 hC hx hl).mono fun e w2 hx => by rw [← HDD.out] at hx; exact hx)
    (fun a' w1 w2 hp ht => ⟨(ht.block _ hp.1.lt hy2.1).trans hp.1, hp.2⟩)).mono ?_
  rintro e w5 ⟨rfl, ht5, a', h5, z5, hr5⟩
  have q5 : w5.cell? ⟨w.heap.size + 1 + 1, 0, none⟩ = some (.bool true) := z5.cell 0 rfl
  go_wp2
  refine bodyPost_ret (v := .tuple #[.bool true, .int .i64 0]) ?_ rfl ⟨rfl, (Tch.of_below hB4).trans' ht5 ?_, a', h5, hr5⟩
  · simp [results, Tryz.results34, go_sem]
  · rintro j hj (e | (e | e) | e)
    · exact .inl e
    · exact .inl e
    · exact .inr e
    · omega
end
end Go.Proofs.YtkndlfdpmpdihaaGreatDoor
namespace Go.Proofs.YtkndlfdpmpdihaaGreatDoor
open Go.RowKit Go.Ev Go.Mv
set_option linter.unusedVariables false
set_option linter.unusedSimpArgs false
set_option maxRecDepth 100000
theorem make56 (w : World) : (Instr.makeSlice 56 (.int .i64 1) (.int .i64 1)).run Tryz.prog w = .ok (.slice (some ⟨w.heap.size, 0, none⟩) 1 1) (w.alloc (.cells #[.int .u64 0] 37)) := by
  obtain ⟨i, hi, hz0, hz1, hz2⟩ := info_parts infoD37
  have := run_make (P := Tryz.prog) w 56 37 i (.int .u64 0) underlying56 hi hz0 .i64 .i64 1 1 (by omega) (by omega) (by rw [hz2]; omega) (by omega)
  rw [this, hz1]
  have e : madeCells (Value.int IntKind.u64 0).cells (Int.toNat 1 * 1) = #[Value.int IntKind.u64 0] := by kernel_rfl
  rw [e]
  rfl
/-- A pool of which nothing is taken. -/
def ps0 : PS := ⟨fun _ => none, fun _ => 0, 0, 0⟩
theorem pool_new {r : Nat} (h1 : 1 ≤ r) (h2 : r ≤ 64) (w : World) : Calls Tryz.prog 235 #[.int .i64 r] w fun e w' => ∃ B : PB, e = .returned (.tuple #[.pointer (some ⟨B.b, 0, none⟩), .int .i64 0]) ∧ Below w.heap.size w w' ∧ PoolAt B ps0 w' ∧ B.room = r ∧ w.heap.size ≤ B.b ∧ ∀ k, B.own k → w.heap.size ≤ k := by
  have hmm := @run_makeMap Tryz.prog
  have hms := make56
  have hq : ((r : Int) + 64 - 1).tdiv 64 = 1 := by
    rw [Int.tdiv_eq_ediv_of_nonneg (by omega)]
    omega
  go_enter Tryz.func235, Tryz.ntmps235
  go_wp2
  have hB : Below w.heap.size w ((((w.alloc (Obj.map #[] 0)).alloc (Obj.map #[] 0)).alloc (Obj.cells #[.int .u64 0] 37)).alloc (Obj.cells #[Value.map (some w.heap.size), Value.map (some (w.heap.size + 1)), Value.slice (some ⟨w.heap.size + 1 + 1, 0, none⟩) 1 1, .int .i64 r] 320)) := ((((Below.refl _ w).alloc (Nat.le_refl _) _).alloc (by simp) _).alloc (by simp <;> omega) _).alloc (by simp <;> omega) _
  have k0 : MapIs PK ((((w.alloc (Obj.map #[] 0)).alloc (Obj.map #[] 0)).alloc (Obj.cells #[.int .u64 0] 37)).alloc (Obj.cells #[Value.map (some w.heap.size), Value.map (some (w.heap.size + 1)), Value.slice (some ⟨w.heap.size + 1 + 1, 0, none⟩) 1 1, .int .i64 r] 320)) w.heap.size (fun _ => none) 0 := by
    refine (mapIs_new w).at ?_
    exact ((((Below.refl (w.heap.size + 1) (w.alloc (Obj.map #[] 0))).alloc (by simp) _).alloc (by simp) _).alloc (by simp <;> omega) _).block _ (by omega)
  have k1 : MapIs PK ((((w.alloc (Obj.map #[] 0)).alloc (Obj.map #[] 0)).alloc (Obj.cells #[.int .u64 0] 37)).alloc (Obj.cells #[Value.map (some w.heap.size), Value.map (some (w.heap.size + 1)), Value.slice (some ⟨w.heap.size + 1 + 1, 0, none⟩) 1 1, .int .i64 r] 320)) (w.heap.size + 1) (fun _ => none) 0 := by
    have := mapIs_new (K := PK) (w.alloc (Obj.map #[] 0))
    rw [World.size_alloc] at this
    refine this.at ?_
    exact ((((Below.refl (w.heap.size + 1 + 1) ((w.alloc (Obj.map #[] 0)).alloc (Obj.map #[] 0))).alloc (by simp) _).alloc (by simp) _)).block _ (by omega)
  have z2 : Blk ((((w.alloc (Obj.map #[] 0)).alloc (Obj.map #[] 0)).alloc (Obj.cells #[.int .u64 0] 37)).alloc (Obj.cells #[Value.map (some w.heap.size), Value.map (some (w.heap.size + 1)), Value.slice (some ⟨w.heap.size + 1 + 1, 0, none⟩) 1 1, .int .i64 r] 320)) (w.heap.size + 1 + 1) #[.int .u64 0] 37 := by
    have := (Blk.new ((w.alloc (Obj.map #[] 0)).alloc (Obj.map #[] 0)) #[.int .u64 0] 37).alloc (Obj.cells #[Value.map (some w.heap.size), Value.map (some (w.heap.size + 1)), Value.slice (some ⟨w.heap.size + 1 + 1, 0, none⟩) 1 1, .int .i64 r] 320)
    simpa using this
  have z3 : Blk ((((w.alloc (Obj.map #[] 0)).alloc (Obj.map #[] 0)).alloc (Obj.cells #[.int .u64 0] 37)).alloc (Obj.cells #[Value.map (some w.heap.size), Value.map (some (w.heap.size + 1)), Value.slice (some ⟨w.heap.size + 1 + 1, 0, none⟩) 1 1, .int .i64 r] 320)) (w.heap.size + 1 + 1 + 1) #[Value.map (some w.heap.size), Value.map (some (w.heap.size + 1)), Value.slice (some ⟨w.heap.size + 1 + 1, 0, none⟩) 1 1, .int .i64 r] 320 := by
    have := Blk.new (((w.alloc (Obj.map #[] 0)).alloc (Obj.map #[] 0)).alloc (Obj.cells #[.int .u64 0] 37)) #[Value.map (some w.heap.size), Value.map (some (w.heap.size + 1)), Value.slice (some ⟨w.heap.size + 1 + 1, 0, none⟩) 1 1, .int .i64 r] 320
    simpa using this
  generalize ((((w.alloc (Obj.map #[] 0)).alloc (Obj.map #[] 0)).alloc (Obj.cells #[.int .u64 0] 37)).alloc (Obj.cells #[Value.map (some w.heap.size), Value.map (some (w.heap.size + 1)), Value.slice (some ⟨w.heap.size + 1 + 1, 0, none⟩) 1 1, .int .i64 r] 320)) = w4 at *
  refine bodyPost_ret (v := .tuple #[.pointer (some ⟨w.heap.size + 1 + 1 + 1, 0, none⟩), .int .i64 0]) ?_ rfl ⟨⟨w.heap.size + 1 + 1 + 1, w.heap.size, w.heap.size + 1, w.heap.size + 1 + 1, r⟩, rfl, hB, ⟨z3, ?_, ⟨_, _, k1, fun a => rfl⟩, z2, by simp⟩, rfl, by simp; omega, ?_⟩
  · simp [results, Tryz.results235, go_sem]
  · have e : entF ps0.ent = fun _ => none := by
      funext x
      cases x <;> rfl
    rw [e]
    exact k0
  · rintro k (e | e | e) <;> (simp only at e; omega)
end Go.Proofs.YtkndlfdpmpdihaaGreatDoor
namespace Go.Proofs.YtkndlfdpmpdihaaGreatDoor
open Go.RowKit Go.Ev Go.Mv
set_option linter.unusedVariables false
set_option linter.unusedSimpArgs false
set_option maxRecDepth 100000
theorem info340 : (Tryz.prog.info? 340).map (fun i => (i.zero, i.size, i.bytes)) = some (some (.agg #[.int .i64 0, .int .i64 0, .bool false, .int .i64 0, .int .i64 0]), 5, 40) := by kernel_rfl
theorem under342 : Tryz.prog.underlying 342 = some (.slice 340) := by kernel_rfl
theorem made_links (n : Nat) : madeCells (Value.agg #[.int .i64 0, .int .i64 0, .bool false, .int .i64 0, .int .i64 0]).cells (n * 5) = ⟨linkCells (fun _ => lk0) n⟩ := by
  have hc : (Value.agg #[.int .i64 0, .int .i64 0, .bool false, .int .i64 0, .int .i64 0]).cells = #[.int .i64 0, .int .i64 0, .bool false, .int .i64 0, .int .i64 0] := by kernel_rfl
  rw [hc]
  unfold madeCells
  apply Array.ext'
  apply List.ext_getElem?
  intro x
  by_cases hx : x < n * 5
  · have e := linkCells_at (fun _ => lk0) n (x / 5) (x % 5) (by omega) (Nat.mod_lt _ (by omega))
    rw [show 5 * (x / 5) + x % 5 = x by omega] at e
    rw [e]
    have hm : x % 5 < 5 := Nat.mod_lt _ (by omega)
    simp [hx]
    match h : x % 5, hm with
    | 0, _ => rfl
    | 1, _ => rfl
    | 2, _ => rfl
    | 3, _ => rfl
    | 4, _ => rfl
  · rw [List.getElem?_eq_none_iff.2 (by simp; omega), List.getElem?_eq_none_iff.2 (by rw [linkCells_length]; omega)]
theorem make342 {n : Nat} (hn : n ≤ 4096) (w : World) : (Instr.makeSlice 342 (.int .i64 n) (.int .i64 n)).run Tryz.prog w = .ok (.slice (some ⟨w.heap.size, 0, none⟩) n n) (w.alloc (.cells ⟨linkCells (fun _ => lk0) n⟩ 340)) := by
  obtain ⟨i, hi, hz0, hz1, hz2⟩ := info_parts info340
  have := run_make (P := Tryz.prog) w 342 340 i _ under342 hi hz0 .i64 .i64 n n (by omega) (by omega) (by rw [hz2]; omega) (by omega)
  rw [this, hz1]
  simp only [Int.toNat_natCast]
  rw [made_links]
/-- Chains of which there is none. -/
def cs0 : CS := ⟨fun _ => none, fun _ => lk0⟩
theorem chain_new {r : Nat} (h1 : 1 ≤ r) (h2 : r ≤ 4096) (w : World) : Calls Tryz.prog 236 #[.int .i64 r] w fun e w' => ∃ B : CB, e = .returned (.tuple #[.pointer (some ⟨B.b, 0, none⟩), .int .i64 0]) ∧ Below w.heap.size w w' ∧ ChainAt B cs0 w' ∧ B.room = r ∧ w.heap.size ≤ B.b ∧ ∀ k, B.own k → w.heap.size ≤ k := by
  have hmm := @run_makeMap Tryz.prog
  have hms := fun w => make342 h2 w
  obtain ⟨lc, hlc⟩ : ∃ lc, lc = linkCells (fun _ => lk0) r := ⟨_, rfl⟩
  rw [← hlc] at hms
  have HLC := Lib.hid hlc
  clear hlc
  go_enter Tryz.func236, Tryz.ntmps236
  go_wp2
  have hB : Below w.heap.size w (((w.alloc (Obj.map #[] 0)).alloc (Obj.cells ⟨lc⟩ 340)).alloc (Obj.cells #[Value.map (some w.heap.size), Value.slice (some ⟨w.heap.size + 1, 0, none⟩) r r] 344)) := (((Below.refl _ w).alloc (Nat.le_refl _) _).alloc (by simp) _).alloc (by simp <;> omega) _
  have k0 : MapIs KP (((w.alloc (Obj.map #[] 0)).alloc (Obj.cells ⟨lc⟩ 340)).alloc (Obj.cells #[Value.map (some w.heap.size), Value.slice (some ⟨w.heap.size + 1, 0, none⟩) r r] 344)) w.heap.size (fun _ => none) 0 := by
    refine (mapIs_new w).at ?_
    exact (((Below.refl (w.heap.size + 1) (w.alloc (Obj.map #[] 0))).alloc (by simp) _).alloc (by simp) _).block _ (by omega)
  have z1 : Blk (((w.alloc (Obj.map #[] 0)).alloc (Obj.cells ⟨lc⟩ 340)).alloc (Obj.cells #[Value.map (some w.heap.size), Value.slice (some ⟨w.heap.size + 1, 0, none⟩) r r] 344)) (w.heap.size + 1) ⟨lc⟩ 340 := by
    have := (Blk.new (w.alloc (Obj.map #[] 0)) ⟨lc⟩ 340).alloc (Obj.cells #[Value.map (some w.heap.size), Value.slice (some ⟨w.heap.size + 1, 0, none⟩) r r] 344)
    simpa using this
  have z2 : Blk (((w.alloc (Obj.map #[] 0)).alloc (Obj.cells ⟨lc⟩ 340)).alloc (Obj.cells #[Value.map (some w.heap.size), Value.slice (some ⟨w.heap.size + 1, 0, none⟩) r r] 344)) (w.heap.size + 1 + 1) #[Value.map (some w.heap.size), Value.slice (some ⟨w.heap.size + 1, 0, none⟩) r r] 344 := by
    have := Blk.new ((w.alloc (Obj.map #[] 0)).alloc (Obj.cells ⟨lc⟩ 340)) #[Value.map (some w.heap.size), Value.slice (some ⟨w.heap.size + 1, 0, none⟩) r r] 344
    simpa using this
  generalize (((w.alloc (Obj.map #[] 0)).alloc (Obj.cells ⟨lc⟩ 340)).alloc (Obj.cells #[Value.map (some w.heap.size), Value.slice (some ⟨w.heap.size + 1, 0, none⟩) r r] 344)) = w4 at *
  refine bodyPost_ret (v := .tuple #[.pointer (some ⟨w.heap.size + 1 + 1, 0, none⟩), .int .i64 0]) ?_ rfl ⟨⟨w.heap.size + 1 + 1, w.heap.size, w.heap.size + 1, r⟩, rfl, hB, ⟨z2, ⟨0, k0⟩, by have := HLC.out; rw [this] at z1; exact z1⟩, rfl, by simp <;> omega, ?_⟩
  · simp [results, Tryz.results236, go_sem]
  · rintro k (e | e) <;> (simp only at e; omega)
end Go.Proofs.YtkndlfdpmpdihaaGreatDoor
namespace Go.Proofs.YtkndlfdpmpdihaaGreatDoor
open Go.RowKit Go.Ev Go.Mv
set_option linter.unusedVariables false
set_option linter.unusedSimpArgs false
set_option maxRecDepth 100000
def ws0 : WS := ⟨ps0, cs0, fun _ => 0, 0, 0⟩
set_option maxHeartbeats 4000000 in
theorem wheel_new {r : Nat} (h1 : 1 ≤ r) (h2 : r ≤ 64) (w : World) : Calls Tryz.prog 166 #[.int .i64 r] w fun e w' => ∃ B : WB, e = .returned (.tuple #[.pointer (some ⟨B.b, 0, none⟩), .int .i64 0]) ∧ Below w.heap.size w w' ∧ WheelAt B ws0 w' ∧ B.p.room = r ∧ B.c.room = r ∧ ∀ k, B.all k → w.heap.size ≤ k := by
  go_enter Tryz.func166, Tryz.ntmps166
  go_wp2_with (go_at_call 235; fail)
  refine (pool_new h1 h2 w).mono ?_
  rintro e w1 ⟨P, rfl, hb1, hP, hr1, hl1, ho1⟩
  go_wp2_with (go_at_call 236; fail)
  refine (chain_new h1 (by omega) w1).mono ?_
  rintro e w2 ⟨C, rfl, hb2, hC, hr2, hl2, ho2⟩
  go_wp2
  have hp := hP.lt
  have hc := hC.lt
  have hs1 := hb1.size
  have hs2 := hb2.size
  have hP2 := hP.below hb2 hp
  have hB3 : Below w.heap.size w (w2.alloc (Obj.cells #[.pointer (some ⟨P.b, 0, none⟩), .pointer (some ⟨C.b, 0, none⟩), .int .u64 0, .int .u64 0, .int .u64 0, .int .u64 0, .int .u64 0, .int .u64 0, .int .u64 0, .int .u64 0, .int .u64 0, .int .u64 0] 215)) := (hb1.trans (hb2.mono hs1)).alloc (Nat.le_trans hs1 hs2) _
  have hb3 : Below w2.heap.size w2 (w2.alloc (Obj.cells #[.pointer (some ⟨P.b, 0, none⟩), .pointer (some ⟨C.b, 0, none⟩), .int .u64 0, .int .u64 0, .int .u64 0, .int .u64 0, .int .u64 0, .int .u64 0, .int .u64 0, .int .u64 0, .int .u64 0, .int .u64 0] 215)) := (Below.refl _ w2).alloc (Nat.le_refl _) _
  have z : Blk (w2.alloc (Obj.cells #[.pointer (some ⟨P.b, 0, none⟩), .pointer (some ⟨C.b, 0, none⟩), .int .u64 0, .int .u64 0, .int .u64 0, .int .u64 0, .int .u64 0, .int .u64 0, .int .u64 0, .int .u64 0, .int .u64 0, .int .u64 0] 215)) w2.heap.size _ 215 := Blk.new w2 _ _
  have o1 := ho2 C.hb (.inl rfl)
  refine bodyPost_ret (v := .tuple #[.pointer (some ⟨w2.heap.size, 0, none⟩), .int .i64 0]) ?_ rfl ⟨⟨w2.heap.size, P, C⟩, rfl, hB3, ⟨z, hP2.below hb3 (by have := hP2.lt; exact this), hC.below hb3 hc, ?_, ?_⟩, hr1, hr2, ?_⟩
  · simp [results, Tryz.results166, go_sem]
  · show P.re ≠ C.hb
    omega
  · show P.ro ≠ C.hb
    omega
  · rintro k ((e | e | e) | e | e)
    · simp only at e
      omega
    · exact ho1 k e
    · have := ho2 k e
      omega
    · simp only at e
      omega
    · simp only at e
      omega
end Go.Proofs.YtkndlfdpmpdihaaGreatDoor
