/- The abstract machine on trees, part F. No statement of the seat is proved here. -/
import Derived.Test.YtmciehdmmnkdhaaGreatDoorTmE
set_option linter.unusedVariables false
set_option linter.unusedSimpArgs false
set_option linter.constructorNameAsVariable false
set_option linter.unusedSectionVars false
set_option linter.deprecated false
set_option linter.unnecessarySimpa false
/- States, single operations, regions in the text's order. No statement of the seat is proved here. -/
namespace Tm
open Go
set_option linter.unusedVariables false
set_option linter.unusedSimpArgs false
structure SR (G : Nat → Option AV) (I : Inj) (M : Mem) (s : St) (a : Act) : Prop where
  er : ER I M s.e a.tmps
  rh : RH I M s.h
  g : GOk G M
/-- The values of a call's arguments. -/
def Args (I : Inj) (M : Mem) : List AV → List Value → Prop
  | [], vs => vs = []
  | x :: l, vs => ∃ v r, vs = v :: r ∧ RV I M x v ∧ Args I M l r
/-- What a call brings about. -/
def CallPost (I : Inj) (M : Mem) (n : Nat) (v : AV) (h' : Heap) (n' : Nat) : Ending → World → Prop
  | .returned u, w' => ∃ M' I', w' = M'.w ∧ Ext M M' ∧ Le I I' ∧ (∀ x, I' x ≠ none → I x ≠ none ∨ (n ≤ x ∧ x < n')) ∧ n ≤ n' ∧ RH I' M' h' ∧ RV I' M' v u
  | _, _ => False
def CallOK (P : Program) (G : Nat → Option AV) (C : CallF) : Prop := ∀ g args h n v h' n', C g args h n = some (v, h', n') →
  (∃ fn, P.funcs[g]? = some fn ∧ (fn.name == "runtime.NumGoroutine") = false ∧ fn.body.isSome = true) ∧
  ∀ (I : Inj) (M : Mem) (vs : List Value), GOk G M → RH I M h → (∀ x, n ≤ x → I x = none) → Args I M args vs → Calls P g vs.toArray M.w (CallPost I M n v h' n')
section
variable {P : Program} {G : Nat → Option AV} {I : Inj} {M : Mem} {a : Act} {o : Oper}
theorem GOk.ext {M' : Mem} (h : GOk G M) (hx : Ext M M') : GOk G M' := fun g av hg => ⟨(h g av hg).1, fun J => ((h g av hg).2 J).ext hx (Le.refl J)⟩
theorem ER.ext {M' : Mem} {I' : Inj} {e : Env} {tmps : Array Value} (h : ER I M e tmps) (hx : Ext M M') (hI : Le I I') : ER I' M' e tmps := fun t => (h t).ext hx hI
theorem ER.put {e : Env} {d : Option Nat} {v : AV} {u : Value} {N : Nat} (h : ER I M e a.tmps) (hv : RV I M v u) (hd : ∀ t, d = some t → t < a.tmps.size) : ER I M (putE e d v) (a.put d u).tmps := by
  cases d with
  | none => exact h
  | some t =>
    have ht := hd t rfl
    intro x
    simp only [putE, Act.put, T.get_set]
    by_cases hx : x = t
    · subst hx
      rw [if_pos rfl]
      simp only [Option.getD_some]
      have : (a.tmps.setIfInBounds x u).getD x undef = u := by simp [Array.getD, ht]
      rw [this]; exact hv
    · rw [if_neg hx]
      have : (a.tmps.setIfInBounds t u).getD x undef = a.tmps.getD x undef := by
        simp only [Array.getD, Array.size_setIfInBounds]
        split
        · rw [Array.getInternal_eq_getElem, Array.getInternal_eq_getElem, Array.getElem_setIfInBounds_ne (by omega) (fun e => hx e.symm)]
        · rfl
      rw [this]; exact h x
theorem put_size {d : Option Nat} {u : Value} : (a.put d u).tmps.size = a.tmps.size := by cases d <;> simp [Act.put]
theorem put_defers' {d : Option Nat} {u : Value} : (a.put d u).defers = a.defers := by cases d <;> rfl
theorem evs_args (hG : GOk G M) {e : Env} (hE : ER I M e a.tmps) : ∀ {l : List Operand} {c : List Opd}, opds G l = some c → Args I M (evs e c) (l.map a.eval)
  | [], c, hc => by simp only [opds, Option.some.injEq] at hc; subst hc; simp [evs, Args]
  | x :: l, c, hc => by
    simp only [opds] at hc
    cases hx : opd G x with
    | none => simp [hx] at hc
    | some y =>
      cases hl : opds G l with
      | none => simp [hx, hl] at hc
      | some r =>
        simp only [hx, hl, Option.some.injEq] at hc
        subst hc
        exact ⟨_, _, rfl, opd_rel hG hE hx, evs_args hG hE hl⟩
theorem Args.app : ∀ {l l' : List AV} {vs vs' : List Value}, Args I M l vs → Args I M l' vs' → Args I M (l ++ l') (vs ++ vs')
  | [], l', vs, vs', h, h' => by simp only [Args] at h; subst h; exact h'
  | x :: l, l', vs, vs', h, h' => by
    obtain ⟨v, r, rfl, hx, hl⟩ := h
    exact ⟨v, r ++ vs', rfl, hx, hl.app h'⟩
theorem RVl.args : ∀ {l : List AV} {vs : List Value}, RVl I M l vs → Args I M l vs
  | [], vs, h => by simp only [RVl] at h; exact h
  | x :: l, vs, h => by
    simp only [RVl] at h
    obtain ⟨v, r, rfl, hx, hl⟩ := h
    exact ⟨v, r, rfl, .inl hx, hl.args⟩
/-- The outcome of an operation, whatever it is. -/
def OpPost (G : Nat → Option AV) (I : Inj) (M : Mem) (k n : Nat) (v : AV) (h' : Heap) (n' : Nat) (u : Value) (w' : World) : Prop :=
  ∃ M' I', w' = M'.w ∧ Ext M M' ∧ Le I I' ∧ (∀ x, I' x ≠ none → I x ≠ none ∨ x = k ∨ (n ≤ x ∧ x < n')) ∧ n ≤ n' ∧ RH I' M' h' ∧ RV I' M' v u
theorem wp_runs {u : Value} {w w' : World} {next : Act → World → Prop} {Q : Exit → Act → World → Prop} (h : Runs P o a w u w') (hn : next (a.put o.dst u) w') : o.wp P a w next Q := by
  unfold Oper.wp
  rcases h with h | ⟨h, rfl⟩
  · rw [h]; exact hn
  · rw [h]; exact hn
theorem wp_enter {g : Nat} {vs : List Value} {w : World} {R : Ending → World → Prop} {next : Act → World → Prop} {Q : Exit → Act → World → Prop} (h : (execOp a.eval o).run P w = .ok (.enter g vs.toArray) w) (hc : Calls P g vs.toArray w R) (hn : ∀ u w', R (.returned u) w' → next (a.put o.dst u) w') (hp : ∀ c w', ¬ R (.panicked c) w') (hg : ∀ w', ¬ R .outgrown w') : o.wp P a w next Q := by
  unfold Oper.wp
  rw [h, Oper.upon_enter]
  exact Calls.mono hc fun e w' hr => by
    cases e with
    | returned u => exact hn u w' hr
    | panicked c => exact absurd hr (hp c w')
    | outgrown => exact absurd hr (hg w')
theorem run_callFunc {w : World} {g : Nat} {vs : Array Value} (h : ∃ fn, P.funcs[g]? = some fn ∧ (fn.name == "runtime.NumGoroutine") = false ∧ fn.body.isSome = true) : (callFunc g vs).run P w = .ok (.enter g vs) w := by
  obtain ⟨fn, h1, h2, h3⟩ := h
  have h4 : fn.body.isNone = false := by cases hb : fn.body <;> simp_all
  simp only [callFunc, Sem.run_bind, run_program, Result.andThen_ok, h1, h2, h4, Bool.false_eq_true, if_false]
  rfl
def isCall : COp → Bool
  | .call _ _ => true
  | .callv _ _ => true
  | _ => false
theorem bif_none {α : Type} {b : Bool} {y : Option α} {c : α} : (bif b then y else none) = some c ↔ b = true ∧ y = some c := by cases b <;> simp
set_option maxHeartbeats 1000000 in
theorem notCall {frz : Bool} {op : Op} {c : COp} (h : ∀ f as ts, op ≠ .call ⟨.value f, as, ts⟩) (hc : compOp P G frz op = some c) : isCall c = false := by
  cases op with
  | call cl =>
    obtain ⟨callee, args, ts⟩ := cl
    cases callee with
    | value f => exact absurd rfl (h f args ts)
    | invoke r m => simp [compOp] at hc
    | builtin b =>
      cases b with
      | append =>
        simp only [compOp] at hc
        split at hc
        · split at hc
          · cases hc
          · split at hc
            · simp only [Option.some.injEq] at hc; subst hc; rfl
            · cases hc
          · cases hc
        · cases hc
      | len =>
        simp only [compOp] at hc
        split at hc
        · split at hc
          · simp only [Option.map_eq_some_iff] at hc; obtain ⟨_, _, rfl⟩ := hc; rfl
          · simp only [Option.map_eq_some_iff] at hc; obtain ⟨_, _, rfl⟩ := hc; rfl
          · cases hc
        · cases hc
      | copy =>
        simp only [compOp] at hc
        split at hc
        · split at hc
          · split at hc
            · simp only [Option.some.injEq] at hc; subst hc; rfl
            · cases hc
          · cases hc
        · cases hc
      | clear =>
        simp only [compOp] at hc
        split at hc
        · split at hc
          · split at hc
            · simp only [Option.some.injEq] at hc; subst hc; rfl
            · cases hc
          · cases hc
        · cases hc
      | delete =>
        simp only [compOp] at hc
        split at hc
        · split at hc
          · split at hc
            · simp only [Option.some.injEq] at hc; subst hc; rfl
            · cases hc
          · cases hc
        · cases hc
      | max =>
        simp only [compOp] at hc
        split at hc
        · split at hc
          · simp only [Option.some.injEq] at hc; subst hc; rfl
          · cases hc
        · cases hc
      | min =>
        simp only [compOp] at hc
        split at hc
        · split at hc
          · simp only [Option.some.injEq] at hc; subst hc; rfl
          · cases hc
        · cases hc
      | _ => simp [compOp] at hc
  | makeFunc fn x y =>
    cases fn with
    | func g =>
      simp only [compOp] at hc
      split at hc
      · simp only [Option.some.injEq] at hc; subst hc; rfl
      · cases hc
    | _ => simp [compOp] at hc
  | makeMap t r =>
    cases r with
    | none => simp only [compOp, Option.some.injEq] at hc; subst hc; rfl
    | some r => simp [compOp] at hc
  | convert s d x =>
    simp only [compOp] at hc
    split at hc
    · simp only [Option.map_eq_some_iff] at hc; obtain ⟨_, _, rfl⟩ := hc; rfl
    · simp only [Option.map_eq_some_iff] at hc; obtain ⟨_, _, rfl⟩ := hc; rfl
    · simp only [bif_none, Option.map_eq_some_iff] at hc; obtain ⟨_, _, _, rfl⟩ := hc; rfl
    · simp only [bif_none, Option.map_eq_some_iff] at hc; obtain ⟨_, _, _, rfl⟩ := hc; rfl
    · cases hc
  | build t ps =>
    simp only [compOp] at hc
    split at hc
    · split at hc
      · simp only [Option.map_eq_some_iff] at hc; obtain ⟨_, _, rfl⟩ := hc; rfl
      · cases hc
    · split at hc
      · simp only [Option.map_eq_some_iff] at hc; obtain ⟨_, _, rfl⟩ := hc; rfl
      · cases hc
    · cases hc
  | buildSlice t len ps =>
    simp only [compOp] at hc
    split at hc
    · split at hc
      · simp only [bif_none, Option.some.injEq] at hc; obtain ⟨_, rfl⟩ := hc; rfl
      · cases hc
    · cases hc
  | makeSlice t x y =>
    simp only [compOp] at hc
    split at hc
    · split at hc
      · simp only [Option.some.injEq] at hc; subst hc; rfl
      · cases hc
    · cases hc
  | slice t x lo hi mx =>
    simp only [compOp] at hc
    split at hc
    · split at hc
      · simp only [Option.some.injEq] at hc; subst hc; rfl
      · cases hc
    · split at hc
      · split at hc
        · cases hc
        · simp only [Option.some.injEq] at hc; subst hc; rfl
      · cases hc
    · cases hc
  | fieldAddr t x f =>
    simp only [compOp] at hc
    split at hc
    · split at hc
      · split at hc
        · simp only [bif_none, Option.some.injEq] at hc; obtain ⟨_, rfl⟩ := hc; rfl
        · cases hc
      · cases hc
    · cases hc
  | indexAddr t x i =>
    simp only [compOp] at hc
    split at hc
    · split at hc
      · simp only [Option.some.injEq] at hc; subst hc; rfl
      · cases hc
    · split at hc
      · simp only [Option.some.injEq] at hc; subst hc; rfl
      · cases hc
    · cases hc
  | index t x i =>
    simp only [compOp] at hc
    split at hc
    · split at hc
      · simp only [Option.some.injEq] at hc; subst hc; rfl
      · cases hc
    · split at hc
      · simp only [Option.some.injEq] at hc; subst hc; rfl
      · cases hc
    · cases hc
  | lookup t x y ok =>
    simp only [compOp] at hc
    split at hc
    · split at hc
      · simp only [Option.some.injEq] at hc; subst hc; rfl
      · cases hc
    · cases hc
  | mapUpdate t x y z =>
    simp only [compOp] at hc
    split at hc
    · split at hc
      · simp only [Option.some.injEq] at hc; subst hc; rfl
      · cases hc
    · cases hc
  | pick x y z => simp only [compOp] at hc; split at hc; (simp only [Option.some.injEq] at hc; subst hc; rfl); cases hc
  | load t x => simp only [compOp] at hc; split at hc; (simp only [Option.some.injEq] at hc; subst hc; rfl); cases hc
  | store t x y => simp only [compOp] at hc; split at hc; (simp only [Option.some.injEq] at hc; subst hc; rfl); cases hc
  | binOp op t x y ty => simp only [compOp] at hc; split at hc; (simp only [Option.some.injEq] at hc; subst hc; rfl); cases hc
  | move x => simp only [compOp, Option.map_eq_some_iff] at hc; obtain ⟨_, _, rfl⟩ := hc; rfl
  | assign x => simp only [compOp, Option.map_eq_some_iff] at hc; obtain ⟨_, _, rfl⟩ := hc; rfl
  | alloc t => simp only [compOp, Option.map_eq_some_iff] at hc; obtain ⟨_, _, rfl⟩ := hc; rfl
  | box t x => simp only [compOp, Option.map_eq_some_iff] at hc; obtain ⟨_, _, rfl⟩ := hc; rfl
  | nilCheck x => simp only [compOp, Option.map_eq_some_iff] at hc; obtain ⟨_, _, rfl⟩ := hc; rfl
  | unOp op t x => simp only [compOp, Option.map_eq_some_iff] at hc; obtain ⟨_, _, rfl⟩ := hc; rfl
  | extract x i => simp only [compOp, Option.map_eq_some_iff] at hc; obtain ⟨_, _, rfl⟩ := hc; rfl
  | _ => simp [compOp] at hc
theorem comp_call {frz : Bool} {op : Op} {g : Nat} {as : List Opd} (hc : compOp P G frz op = some (.call g as)) : ∃ args ts, op = .call ⟨.value (.func g), args, ts⟩ ∧ opds G args.toList = some as := by
  by_cases h : ∃ f as ts, op = .call ⟨.value f, as, ts⟩
  · obtain ⟨f, args, ts, rfl⟩ := h
    cases f with
    | func g' =>
      simp only [compOp, Option.map_eq_some_iff, COp.call.injEq] at hc
      obtain ⟨y, hy, rfl, rfl⟩ := hc
      exact ⟨args, ts, rfl, hy⟩
    | _ =>
      simp only [compOp] at hc
      split at hc <;> simp at hc
  · have := notCall (fun f as ts e => h ⟨f, as, ts, e⟩) hc
    simp [isCall] at this
theorem comp_callv {frz : Bool} {op : Op} {x : Opd} {as : List Opd} (hc : compOp P G frz op = some (.callv x as)) : ∃ f args ts, op = .call ⟨.value f, args, ts⟩ ∧ opd G f = some x ∧ opds G args.toList = some as := by
  by_cases h : ∃ f as ts, op = .call ⟨.value f, as, ts⟩
  · obtain ⟨f, args, ts, rfl⟩ := h
    cases f with
    | func g' => simp [compOp] at hc
    | _ =>
      simp only [compOp] at hc
      split at hc
      · simp only [Option.some.injEq, COp.callv.injEq] at hc
        obtain ⟨rfl, rfl⟩ := hc
        exact ⟨_, args, ts, rfl, by assumption, by assumption⟩
      · cases hc
  · have := notCall (fun f as ts e => h ⟨f, as, ts, e⟩) hc
    simp [isCall] at this
/-- One operation. -/
theorem sim_doOp {C : CallF} (hC : CallOK P G C) {frz : Bool} {c : COp} {s : St} {k : Nat} {v : AV} {h' : Heap} {n' : Nat} (hS : SR G I M s a) (hk : I k = none) (hfr : ∀ x, s.n ≤ x → I x = none) (hc : compOp P G frz o.op = some c) (hd : doOp C c s k = some (v, h', n'))
    {next : Act → World → Prop} {Q : Exit → Act → World → Prop} (hn : ∀ u w', OpPost G I M k s.n v h' n' u w' → next (a.put o.dst u) w') : o.wp P a M.w next Q := by
  have prim : evOp c s.e s.h k = some (v, h') → n' = s.n → o.wp P a M.w next Q := by
    rintro hev rfl
    obtain ⟨u, M', I', h1, h2, h3, h4, h5, h6⟩ := sim_evOp hS.g hS.er hS.rh hk hc hev
    exact wp_runs h1 (hn u _ ⟨M', I', rfl, h2, h3, fun x hx => (h4 x hx).imp id fun e => .inl e, Nat.le_refl _, h5, h6⟩)
  have call : ∀ {g : Nat} {as : List AV} {vs : List Value}, C g as s.h s.n = some (v, h', n') → Args I M as vs → (∀ w, (∃ fn, P.funcs[g]? = some fn ∧ (fn.name == "runtime.NumGoroutine") = false ∧ fn.body.isSome = true) → (execOp a.eval o).run P w = .ok (.enter g vs.toArray) w) → o.wp P a M.w next Q := by
    intro g as vs h1 h2 h3
    obtain ⟨hfn, hcall⟩ := hC g as s.h s.n v h' n' h1
    refine wp_enter (h3 M.w hfn) (hcall I M vs hS.g hS.rh hfr h2) (fun u w' hr => ?_) (fun _ _ h => h) (fun _ h => h)
    obtain ⟨M', I', e1, e2, e3, e4, e5, e6, e7⟩ := hr
    exact hn u w' ⟨M', I', e1, e2, e3, fun x hx => (e4 x hx).imp id fun e => .inr e, e5, e6, e7⟩
  cases hcc : isCall c with
  | false =>
    have : doOp C c s k = (match evOp c s.e s.h k with
      | some (v, h) => some (v, h, s.n)
      | none => none) := by cases c <;> first | rfl | (simp [isCall] at hcc)
    rw [this] at hd
    split at hd
    · rename_i v1 h1 hev
      simp only [Option.some.injEq, Prod.mk.injEq] at hd
      obtain ⟨rfl, rfl, rfl⟩ := hd
      exact prim hev rfl
    · cases hd
  | true =>
    cases c with
    | call g as =>
      simp only [doOp] at hd
      obtain ⟨args, ts, ho, hy⟩ := comp_call hc
      refine call hd (evs_args hS.g hS.er hy) fun w hfn => ?_
      simp only [execOp, ho, resolve, Act.eval, Deferred.ofValue, Sem.run_bind, Sem.run_pure, Result.andThen_ok, invoke]
      rw [run_callFunc hfn]
      congr 2
      apply Array.toList_inj.1
      simp
    | callv x as =>
      simp only [doOp] at hd
      obtain ⟨f, args, ts, ho, hx, hy⟩ := comp_callv hc
      have rx := opd_rel hS.g hS.er hx
      split at hd
      · rename_i g fs caps hxe
        rw [hxe] at rx
        obtain ⟨b1, b2, e1, h1, h2⟩ := rx.fn
        refine call hd ((h1.args.app (evs_args hS.g hS.er hy)).app h2.args) fun w hfn => ?_
        simp only [execOp, ho, resolve, e1, Deferred.ofValue, Sem.run_bind, Sem.run_pure, Result.andThen_ok, invoke]
        rw [run_callFunc hfn]
        congr 2
        apply Array.toList_inj.1
        simp
      · cases hd
    | _ => simp [isCall] at hcc
end
end Tm
/- Regions in the text's order. No statement of the seat is proved here. -/
namespace Tm
open Go
set_option linter.unusedVariables false
set_option linter.unusedSimpArgs false
section
variable {P : Program} {G : Nat → Option AV} {I : Inj} {M : Mem} {a : Act} {o : Oper}
theorem wants_rel {e : Env} {all : Array Oper} {g : Option (Nat × Bool)} (hE : ER I M e a.tmps) (hg : gtmp all o.guard = some g) {b : Bool} (hw : wants e g = some b) : Region.wanted o (yielded all a.tmps) = b := by
  unfold Region.wanted
  cases hgu : o.guard with
  | none =>
    rw [hgu] at hg
    simp only [gtmp, Option.some.injEq] at hg
    subst hg
    simp only [wants, Option.some.injEq] at hw
    simpa using hw
  | some p =>
    obtain ⟨j, want⟩ := p
    rw [hgu] at hg
    simp only [gtmp] at hg
    split at hg
    · rename_i t ht
      simp only [Option.some.injEq] at hg
      subst hg
      simp only [wants] at hw
      have hr := hE t
      simp only [yielded, ht, Option.bind_some]
      split at hw
      · rename_i c hc
        rw [hc] at hr
        simp only [Option.getD_some] at hr
        have hv := hr.bool
        simp only [Option.some.injEq] at hw
        have : a.tmps[t]? = some (.bool c) := by
          unfold Array.getD at hv
          split at hv
          · rename_i hlt
            rw [Array.getElem?_eq_getElem hlt]; exact congrArg some hv
          · exact absurd hv (by simp [undef])
        rw [this]
        simp only [← hw]
        cases c <;> cases want <;> rfl
      · rename_i hc
        rw [hc] at hr
        simp only [Option.getD_some] at hr
        simp only [Option.some.injEq] at hw
        have hv : a.tmps.getD t undef = .tuple #[] := by
          rcases hr with (h0 | ⟨_, h0⟩) | ⟨l, vs, e1, e2, e3⟩
          · cases h0
          · simp only [RVc] at h0
          · cases e1
            simp only [RTu] at e3
            rw [e2]; congr 1; exact Array.toList_inj.1 e3
        have : ∀ c, a.tmps[t]? ≠ some (.bool c) := by
          intro c hc'
          unfold Array.getD at hv
          split at hv
          · rename_i hlt
            rw [Array.getElem?_eq_getElem hlt] at hc'
            have hv' : a.tmps[t] = .tuple #[] := hv
            rw [hv'] at hc'
            simp at hc'
          · rename_i hlt
            rw [Array.getElem?_eq_none (by omega)] at hc'
            cases hc'
        rw [← hw]
        cases hq : a.tmps[t]? with
        | none => rfl
        | some x => cases x <;> first | rfl | (rename_i c; exact absurd hq (this c))
      · cases hw
    · cases hg
/-- What a state has become. -/
structure Reach (G : Nat → Option AV) (I : Inj) (M : Mem) (m : Nat) (a : Act) (s' : St) (a' : Act) (w' : World) (I' : Inj) (M' : Mem) : Prop where
  w : w' = M'.w
  ext : Ext M M'
  le : Le I I'
  new : ∀ x, I' x ≠ none → I x ≠ none ∨ (m ≤ x ∧ x < s'.n)
  sr : SR G I' M' s' a'
  sz : a'.tmps.size = a.tmps.size
  df : a'.defers = a.defers
  n : m ≤ s'.n
theorem compOper_spec {N : Nat} {all : Array Oper} {frz : Bool} {c : COper} (hc : compOper P G N all frz o = some c) : compOp P G frz o.op = some c.op ∧ gtmp all o.guard = some c.guard ∧ c.dst = o.dst ∧ (∀ t, o.dst = some t → t < N) ∧ c.chk = [] ∧ c.dis = none := by
  unfold compOper at hc
  split at hc
  · rename_i c' g h1 h2
    split at hc
    · rename_i hd
      simp only [Option.some.injEq] at hc; subst hc
      exact ⟨h1, h2, hd.symm, (fun t ht => by rw [hd] at ht; cases ht), rfl, rfl⟩
    · rename_i d hd
      cases hb : Nat.blt d N with
      | false => simp [hb] at hc
      | true =>
        simp only [hb, cond_true, Option.some.injEq] at hc; subst hc
        exact ⟨h1, h2, hd.symm, (fun t ht => by rw [hd] at ht; cases ht; exact blt_lt hb), rfl, rfl⟩
  · cases hc
theorem SR.skip {s : St} {d : Option Nat} {N : Nat} (hS : SR G I M s a) (hd : ∀ t, d = some t → t < a.tmps.size) : SR G I M ⟨putE s.e d (.tu []), s.h, s.n⟩ (a.put d undef) :=
  ⟨hS.er.put (N := N) (.inr ⟨_, _, rfl, rfl, rfl⟩) hd, hS.rh, hS.g⟩
theorem bslice_of {frz f : Bool} {op : Op} {zs : List D} {len : Nat} {ps : List (Nat × Opd)} (hc : compOp P G frz op = some (.bslice f zs len ps)) : ∃ t el qs, op = .buildSlice t len qs ∧ P.underlying t = some (.slice el) ∧ zeroD P el = some zs ∧ partsS G qs.toList = some ps ∧ len * zs.length ≤ 16777216 := by
  cases op with
  | buildSlice t len' qs =>
    simp only [compOp] at hc
    split at hc
    · rename_i el hel
      split at hc
      · rename_i zs' l h1 h2
        cases hb : Nat.ble (len' * zs'.length) 16777216 with
        | false => simp [hb] at hc
        | true =>
          simp only [hb, cond_true, Option.some.injEq, COp.bslice.injEq] at hc
          obtain ⟨_, rfl, rfl, rfl⟩ := hc
          have : P.underlying t = some (.slice el) := by
            unfold slElem at hel
            split at hel
            · simp only [Option.some.injEq] at hel; subst hel; assumption
            · cases hel
          exact ⟨t, el, qs, rfl, this, h1, h2, ble_le hb⟩
      · cases hc
    · cases hc
  | call c =>
    obtain ⟨callee, args, ts⟩ := c
    simp only [compOp] at hc
    repeat' split at hc
    all_goals first | contradiction | (cases hc; done) | (obtain ⟨_, _, hc⟩ := Option.map_eq_some_iff.1 hc; cases hc; done) | (simp only [Bool.cond_eq_ite] at hc; split at hc <;> first | contradiction | (cases hc; done) | (obtain ⟨_, _, hc⟩ := Option.map_eq_some_iff.1 hc; cases hc; done))
  | _ =>
    simp only [compOp] at hc
    repeat' split at hc
    all_goals first | contradiction | (cases hc; done) | (obtain ⟨_, _, hc⟩ := Option.map_eq_some_iff.1 hc; cases hc; done) | (simp only [Bool.cond_eq_ite] at hc; split at hc <;> first | contradiction | (cases hc; done) | (obtain ⟨_, _, hc⟩ := Option.map_eq_some_iff.1 hc; cases hc; done))
theorem sim_rowOp {C : CallF} (hC : CallOK P G C) {c : COp} {s : St} {k : Nat} {v : AV} {h' : Heap} {n' : Nat} (hS : SR G I M s a) (hk : I k = none) (hfr : ∀ x, s.n ≤ x → I x = none) (hc : compOp P G true o.op = some c) (hd : doOp C (rowify c) s k = some (v, h', n'))
    {next : Act → World → Prop} {Q : Exit → Act → World → Prop} (hn : ∀ u w', OpPost G I M k s.n v h' n' u w' → next (a.put o.dst u) w') : o.wp P a M.w next Q := by
  have old : rowify c = c → o.wp P a M.w next Q := fun e => sim_doOp hC hS hk hfr hc (by rw [← e]; exact hd) hn
  cases c with
  | bslice f zs len ps =>
    cases f with
    | false => exact old rfl
    | true =>
      cases hb : (zs.length == 5 && Nat.blt 0 len) with
      | false => exact old (by simp only [rowify, hb, cond_false])
      | true =>
        have hr : rowify (.bslice true zs len ps) = .brow zs len ps := by simp only [rowify, hb, cond_true]
        rw [hr] at hd
        obtain ⟨t, el, qs, h1, h2, h3, h4, h5⟩ := bslice_of hc
        have hd' : (match evOp (.brow zs len ps) s.e s.h k with | some (v, h) => some (v, h, s.n) | none => none) = some (v, h', n') := hd
        split at hd'
        · rename_i v1 h1' hev
          simp only [Option.some.injEq, Prod.mk.injEq] at hd'
          obtain ⟨rfl, rfl, rfl⟩ := hd'
          obtain ⟨u, M', I', g1, g2, g3, g4, g5, g6⟩ := sim_brow hS.g hS.er hS.rh hk h1 h2 h3 h4 h5 hev
          exact wp_runs g1 (hn u _ ⟨M', I', rfl, g2, g3, fun x hx => (g4 x hx).imp id fun e => .inl e, Nat.le_refl _, g5, g6⟩)
        · cases hd'
  | _ => exact old rfl
theorem sim_plainOps {C : CallF} (hC : CallOK P G C) {N n0 len : Nat} {all : Array Oper} {Q : Exit → Act → World → Prop} : ∀ (l : List Oper) (i : Nat) (cl : List (Nat × COper)) (s s' : St) (I : Inj) (M : Mem) (a : Act), all.toList.drop i = l → len = all.size → plainOps P G N all i l = some cl → evOps C n0 cl s = some s' →
    SR G I M s a → N ≤ a.tmps.size → n0 + len ≤ s.n → (∀ x, I x ≠ none → x < n0 + i ∨ (n0 + len ≤ x ∧ x < s.n)) →
    (∀ a' w' I' M', Ext M M' → Le I I' → (∀ x, I' x ≠ none → I x ≠ none ∨ (n0 ≤ x ∧ x < s'.n)) → SR G I' M' s' a' → a'.tmps.size = a.tmps.size → a'.defers = a.defers → s.n ≤ s'.n → w' = M'.w → Q .normal a' w') →
    wpOps P all Q (List.range' i l.length) a M.w
  | [], i, cl, s, s', I, M, a, hdrop, hlen, hc, hev, hS, hN, hn, hfr, hQ => by
    simp only [plainOps, Option.some.injEq] at hc
    subst hc
    simp only [evOps, Option.some.injEq] at hev
    subst hev
    simp only [List.length_nil, List.range'_zero, wpOps]
    exact hQ a M.w I M (Ext.refl M) (Le.refl I) (fun x hx => .inl hx) hS rfl rfl (Nat.le_refl _) rfl
  | o :: l, i, cl, s, s', I, M, a, hdrop, hlen, hc, hev, hS, hN, hn, hfr, hQ => by
    have ho : all[i]? = some o := by
      have : (all.toList.drop i)[0]? = some o := by rw [hdrop]; rfl
      rw [List.getElem?_drop] at this
      simpa using this
    have hil : i < len := by rw [hlen]; exact (Array.getElem?_eq_some_iff.1 ho).1
    simp only [plainOps] at hc
    cases h1 : compOper P G N all true o with
    | none => simp [h1] at hc
    | some co =>
      cases h2 : plainOps P G N all (i + 1) l with
      | none => simp [h1, h2] at hc
      | some cl' =>
        simp only [h1, h2, Option.some.injEq] at hc
        subst hc
        obtain ⟨c1, c2, c3, c4, c5, c6⟩ := compOper_spec h1
        have hd : ∀ t, o.dst = some t → t < a.tmps.size := fun t ht => Nat.lt_of_lt_of_le (c4 t ht) hN
        have hdrop' : all.toList.drop (i + 1) = l := by rw [← List.drop_drop, hdrop]; rfl
        simp only [List.length_cons, List.range'_succ, wpOps, ho]
        simp only [evOps] at hev
        split at hev
        · cases hev
        · rename_i hw
          rw [wants_rel hS.er c2 hw]
          simp only [if_true]
          left
          split at hev
          · rename_i v h' n' hdo
            rw [c5, c3] at hev
            simp only [List.all_nil, Bool.and_true, apart, c6] at hev
            cases hfrs : fresh s.h (n0 + i) (rowify co.op) with
            | false => simp [hfrs] at hev
            | true =>
            simp only [hfrs] at hev
            refine sim_rowOp hC hS (k := n0 + i) ?_ ?_ c1 hdo fun u w' hpost => ?_
            · cases hx : I (n0 + i) with
              | none => rfl
              | some q => rcases hfr (n0 + i) (by rw [hx]; simp) with hh | hh <;> omega
            · intro x hx
              cases hq : I x with
              | none => rfl
              | some q => rcases hfr x (by rw [hq]; simp) with hh | hh <;> omega
            · obtain ⟨M', I', rfl, e1, e2, e3, e4, e5, e6⟩ := hpost
              have hS' : SR G I' M' ⟨putE s.e o.dst v, h', n'⟩ (a.put o.dst u) := ⟨(hS.er.ext e1 e2).put (N := N) e6 hd, e5, hS.g.ext e1⟩
              refine sim_plainOps hC l (i + 1) cl' _ s' I' M' (a.put o.dst u) hdrop' hlen h2 hev hS' (by rw [put_size]; exact hN) (by show n0 + len ≤ n'; omega) (fun x hx => ?_) (fun a' w' I2 M2 f1 f2 f3 f4 f5 f6 f7 f8 => ?_)
              · show x < n0 + (i + 1) ∨ (n0 + len ≤ x ∧ x < n')
                rcases e3 x hx with hh | hh | hh
                · rcases hfr x hh with hh | hh <;> omega
                · omega
                · omega
              · refine hQ a' w' I2 M2 (e1.trans f1) (e2.trans f2) (fun x hx => ?_) f4 (by rw [f5, put_size]) (by rw [f6, put_defers']) (Nat.le_trans e4 f7) f8
                rcases f3 x hx with hh | hh
                · have f7' : n' ≤ s'.n := f7
                  rcases e3 x hh with hh | hh | hh
                  · exact .inl hh
                  · exact .inr (by omega)
                  · exact .inr (by omega)
                · exact .inr hh
          · cases hev
        · rename_i hw
          rw [wants_rel hS.er c2 hw]
          simp only [Bool.false_eq_true, if_false]
          rw [c3] at hev
          refine sim_plainOps hC l (i + 1) cl' _ s' I M (a.put o.dst undef) hdrop' hlen h2 hev (hS.skip (N := N) hd) (by rw [put_size]; exact hN) hn (fun x hx => ?_) (fun a' w' I2 M2 f1 f2 f3 f4 f5 f6 f7 f8 => ?_)
          · rcases hfr x hx with hh | hh
            · exact .inl (by omega)
            · exact .inr hh
          · exact hQ a' w' I2 M2 f1 f2 f3 f4 (by rw [f5, put_size]) (by rw [f6, put_defers']) f7 f8
end
end Tm
/- What operations look at, and what they leave alone. No statement of the seat is proved here. -/
namespace Tm
open Go
set_option linter.unusedVariables false
set_option linter.unusedSimpArgs false
/-- Objects that differ in nothing but whether a row is frozen. -/
def SameOb : Ob → Ob → Prop
  | .box l, ob => ob = .box l
  | .row s l _, ob => ∃ z, ob = .row s l z
  | .map ks vs, ob => ob = .map ks vs
/-- No object has changed but for being frozen; new ones have names from n on. -/
structure Soft (n : Nat) (h h' : Heap) : Prop where
  old : ∀ x ob, h.get x = some ob → ∃ ob', h'.get x = some ob' ∧ SameOb ob ob'
  new : ∀ x, x < n → h.get x = none → h'.get x = none
section
variable {h h' : Heap}
theorem SameOb.refl (ob : Ob) : SameOb ob ob := by cases ob <;> simp [SameOb]
theorem SameOb.trans {a b c : Ob} (h : SameOb a b) (h' : SameOb b c) : SameOb a c := by
  cases a with
  | box l => simp only [SameOb] at h; subst h; exact h'
  | map k v => simp only [SameOb] at h; subst h; exact h'
  | row s l z => obtain ⟨z', rfl⟩ := h; exact h'
theorem Soft.refl (n : Nat) (h : Heap) : Soft n h h := ⟨fun x ob hx => ⟨ob, hx, SameOb.refl ob⟩, fun _ _ h => h⟩
theorem Soft.trans {n : Nat} {a b c : Heap} (h : Soft n a b) (h' : Soft n b c) : Soft n a c where
  old := fun x ob hx => by
    obtain ⟨o1, h1, s1⟩ := h.old x ob hx
    obtain ⟨o2, h2, s2⟩ := h'.old x o1 h1
    exact ⟨o2, h2, s1.trans s2⟩
  new := fun x hx h0 => h'.new x hx (h.new x hx h0)
theorem cellD_soft {n : Nat} {v : AV} {x : D} (hc : cellD v h = some (x, h')) : Soft n h h' := by
  unfold cellD at hc
  split at hc
  · simp only [Option.some.injEq, Prod.mk.injEq] at hc; rw [hc.2]; exact Soft.refl _ _
  · simp only [Option.some.injEq, Prod.mk.injEq] at hc; rw [hc.2]; exact Soft.refl _ _
  · simp only [Option.some.injEq, Prod.mk.injEq] at hc; rw [hc.2]; exact Soft.refl _ _
  · rename_i a lo m _
    split at hc
    · rename_i sz l z hob
      split at hc
      · simp only [Option.some.injEq, Prod.mk.injEq] at hc
        rw [← hc.2]
        refine ⟨fun y ob hy => ?_, fun y _ hy => ?_⟩
        · rw [T.get_set]
          by_cases hya : y = a
          · subst hya
            rw [if_pos rfl]
            rw [hob] at hy
            cases hy
            exact ⟨_, rfl, true, rfl⟩
          · rw [if_neg hya]; exact ⟨ob, hy, SameOb.refl ob⟩
        · rw [T.get_set]
          by_cases hya : y = a
          · subst hya; rw [hob] at hy; cases hy
          · rw [if_neg hya]; exact hy
      · cases hc
    · cases hc
  · cases hc
theorem cellsToD_soft {n : Nat} : ∀ {l : List AV} {r : List D} {h h' : Heap}, cellsToD l h = some (r, h') → Soft n h h'
  | [], r, h, h', hc => by simp only [cellsToD, Option.some.injEq, Prod.mk.injEq] at hc; rw [hc.2]; exact Soft.refl _ _
  | v :: l, r, h, h', hc => by
    simp only [cellsToD] at hc
    cases h1 : cellD v h with
    | none => simp [h1] at hc
    | some p =>
      obtain ⟨x, h2⟩ := p
      simp only [h1] at hc
      cases h3 : cellsToD l h2 with
      | none => simp [h3] at hc
      | some p =>
        obtain ⟨r2, h4⟩ := p
        simp only [h3, Option.some.injEq, Prod.mk.injEq] at hc
        rw [← hc.2]
        exact (cellD_soft h1).trans (cellsToD_soft h3)
theorem toD_soft {n : Nat} {v : AV} {x : D} (hc : toD v h = some (x, h')) : Soft n h h' := by
  unfold toD at hc
  split at hc
  · split at hc
    · rename_i h1
      simp only [Option.some.injEq, Prod.mk.injEq] at hc
      rw [← hc.2]; exact cellsToD_soft h1
    · cases hc
  · exact cellD_soft hc
end

section
variable {e e' : Env}
theorem Opd.ev_congr {x : Opd} (h : ∀ t ∈ x.ts, e.get t = e'.get t) : x.ev e = x.ev e' := by
  cases x with
  | t i => simp only [Opd.ev]; rw [h i (by simp [Opd.ts])]
  | c v => rfl
theorem evs_congr : ∀ {l : List Opd}, (∀ t ∈ tsL l, e.get t = e'.get t) → evs e l = evs e' l
  | [], _ => rfl
  | x :: l, h => by
    simp only [tsL, List.forall_mem_append] at h
    simp only [evs, Opd.ev_congr h.1, evs_congr h.2]
theorem fillV_congr : ∀ {ps : List (Nat × Nat × Opd)} {c : List AV}, (∀ t ∈ tsP3 ps, e.get t = e'.get t) → fillV e ps c = fillV e' ps c
  | [], _, _ => rfl
  | (o, s, x) :: l, c, h => by
    simp only [tsP3, List.forall_mem_append] at h
    simp only [fillV, Opd.ev_congr h.1]
    split
    · split
      · exact fillV_congr h.2
      · rfl
    · rfl
theorem fillD_congr {frz : Bool} {sz len : Nat} : ∀ {ps : List (Nat × Opd)} {c : List D} {hp : Heap}, (∀ t ∈ tsP2 ps, e.get t = e'.get t) → fillD frz e sz len ps c hp = fillD frz e' sz len ps c hp
  | [], _, _, _ => rfl
  | (i, x) :: l, c, hp, h => by
    simp only [tsP2, List.forall_mem_append] at h
    simp only [fillD, Opd.ev_congr h.1]
    split
    · split
      · exact fillD_congr h.2
      · rfl
    · rfl
theorem bnd_congr {x : Option Opd} {d t : Nat} (h : ∀ t ∈ tsO x, e.get t = e'.get t) : bnd e x d t = bnd e' x d t := by
  cases x with
  | none => rfl
  | some x => simp only [bnd]; rw [Opd.ev_congr (x := x) h]
theorem bnd_congr' {x : Option Opd} (h : ∀ t ∈ tsO x, e.get t = e'.get t) : bnd e x = bnd e' x := funext fun d => funext fun t => bnd_congr h
theorem evOp_congr {c : COp} {hp : Heap} {k : Nat} (h : ∀ t ∈ c.ts, e.get t = e'.get t) : evOp c e hp k = evOp c e' hp k := by
  cases c with
  | alloc => rfl
  | mkmap => rfl
  | bad => rfl
  | call => rfl
  | callv => rfl
  | build z ps => simp only [evOp]; rw [fillV_congr h]
  | bslice f z l ps => simp only [evOp]; rw [fillD_congr h]
  | brow z l ps => simp only [evOp]; rw [fillD_congr h]
  | mkf g a b =>
    simp only [COp.ts, List.forall_mem_append] at h
    simp only [evOp, evs_congr h.1, evs_congr h.2]
  | slS x lo hi =>
    simp only [COp.ts, List.forall_mem_append] at h
    simp only [evOp, Opd.ev_congr h.1, bnd_congr' h.2.1, bnd_congr' h.2.2]
  | sl s x lo hi mx =>
    simp only [COp.ts, List.forall_mem_append] at h
    have h4 : ∀ m, mx = some m → bnd e (some m) = bnd e' (some m) := by rintro m rfl; exact bnd_congr' h.2.2.2
    simp only [evOp, Opd.ev_congr h.1, bnd_congr' h.2.1, bnd_congr' h.2.2.1]
    cases mx with
    | none => rfl
    | some m => simp only [h4 m rfl]
  | pick a b c =>
    simp only [COp.ts, List.forall_mem_append] at h
    simp only [evOp, Opd.ev_congr h.1, Opd.ev_congr h.2.1, Opd.ev_congr h.2.2]
  | mupd s a b c =>
    simp only [COp.ts, List.forall_mem_append] at h
    simp only [evOp, Opd.ev_congr h.1, Opd.ev_congr h.2.1, Opd.ev_congr h.2.2]
  | ins s a b c =>
    simp only [COp.ts, List.forall_mem_append] at h
    simp only [evOp, Opd.ev_congr h.1, Opd.ev_congr h.2.1, Opd.ev_congr h.2.2]
  | len b x => cases b <;> (simp only [COp.ts] at h; simp only [evOp, Opd.ev_congr h])
  | mv x => simp only [evOp, Opd.ev_congr (x := x) h]
  | box x => simp only [evOp, Opd.ev_congr (x := x) h]
  | load n x => simp only [evOp, Opd.ev_congr (x := x) h]
  | nilc x => simp only [evOp, Opd.ev_congr (x := x) h]
  | un o x => simp only [evOp, Opd.ev_congr (x := x) h]
  | conv k x => simp only [evOp, Opd.ev_congr (x := x) h]
  | cvs x => simp only [evOp, Opd.ev_congr (x := x) h]
  | s2b x => simp only [evOp, Opd.ev_congr (x := x) h]
  | b2s x => simp only [evOp, Opd.ev_congr (x := x) h]
  | fld o x => simp only [evOp, Opd.ev_congr (x := x) h]
  | ext x i => simp only [evOp, Opd.ev_congr (x := x) h]
  | clear z x => simp only [evOp, Opd.ev_congr (x := x) h]
  | mkeys x => simp only [evOp, Opd.ev_congr (x := x) h]
  | sorted st g x => cases st <;> simp only [evOp, Opd.ev_congr (x := x) h]
  | iter => rfl
  | _ =>
    simp only [COp.ts, List.forall_mem_append] at h
    simp only [evOp, Opd.ev_congr h.1, Opd.ev_congr h.2]
theorem doOp_congr {C : CallF} {c : COp} {hp : Heap} {k n : Nat} (h : ∀ t ∈ c.ts, e.get t = e'.get t) : doOp C c ⟨e, hp, n⟩ k = doOp C c ⟨e', hp, n⟩ k := by
  have := evOp_congr (hp := hp) (k := k) h
  cases c with
  | call g l => simp only [COp.ts] at h; simp only [doOp, evs_congr h]
  | callv x l =>
    simp only [COp.ts, List.forall_mem_append] at h
    simp only [doOp, evs_congr h.2, Opd.ev_congr h.1]
  | _ => simp only [doOp, this]
end
/-- Some of an environment. -/
def restr (e : Env) : List Nat → Env
  | [] => .lf
  | t :: l => match e.get t with
    | some v => (restr e l).set t v
    | none => restr e l
theorem restr_get {e : Env} : ∀ {l : List Nat} {t : Nat}, (restr e l).get t = if t ∈ l then e.get t else none
  | [], t => by simp [restr]
  | x :: l, t => by
    simp only [restr]
    cases hx : e.get x with
    | none =>
      simp only [restr_get (l := l), List.mem_cons]
      by_cases h : t = x
      · subst h; simp [hx]
      · simp [h]
    | some v =>
      simp only [T.get_set, restr_get (l := l), List.mem_cons]
      by_cases h : t = x
      · subst h; simp [hx]
      · simp [h]
/-! ### Equality -/
mutual
theorem beqD_eq : ∀ {x y : D}, beqD x y = true → x = y
  | .i k n, y, h => by cases y <;> simp_all [beqD]
  | .b a, y, h => by cases y <;> simp_all [beqD]
  | .s a, y, h => by
    cases y with
    | s b =>
      simp only [beqD, beq_iff_eq] at h
      have : a = b := by cases a; cases b; simp only at h; rw [Array.toList_inj.1 h]
      rw [this]
    | _ => simp [beqD] at h
  | .nif, y, h => by cases y <;> simp_all [beqD]
  | .se, y, h => by cases y <;> simp_all [beqD]
  | .sl l, y, h => by
    cases y with
    | sl l' => simp only [beqD] at h; rw [beqDs_eq h]
    | _ => simp [beqD] at h
  | .ag l, y, h => by
    cases y with
    | ag l' => simp only [beqD] at h; rw [beqDs_eq h]
    | _ => simp [beqD] at h
theorem beqDs_eq : ∀ {x y : List D}, beqDs x y = true → x = y
  | [], y, h => by cases y <;> simp_all [beqDs]
  | x :: l, y, h => by
    cases y with
    | nil => simp [beqDs] at h
    | cons y l' =>
      simp only [beqDs, Bool.and_eq_true] at h
      rw [beqD_eq h.1, beqDs_eq h.2]
end
mutual
theorem beqV_eq : ∀ {x y : AV}, beqV x y = true → x = y
  | .d x, y, h => by
    cases y with
    | d y => simp only [beqV] at h; rw [beqD_eq h]
    | _ => simp [beqV] at h
  | .u, y, h => by cases y <;> simp [beqV] at h
  | .np, y, h => by cases y <;> simp_all [beqV]
  | .nm, y, h => by cases y <;> simp_all [beqV]
  | .nf, y, h => by cases y <;> simp_all [beqV]
  | .p a o, y, h => by cases y <;> simp_all [beqV]
  | .pe l o, y, h => by
    cases y with
    | pe l' o' => simp only [beqV, Bool.and_eq_true, beq_iff_eq] at h; rw [beqVs_eq h.1, h.2]
    | _ => simp [beqV] at h
  | .zl l, y, h => by
    cases y with
    | zl y => simp only [beqV] at h; rw [beqDs_eq h]
    | _ => simp [beqV] at h
  | .bs l, y, h => by
    cases y with
    | bs y => simp only [beqV] at h; rw [beqDs_eq h]
    | _ => simp [beqV] at h
  | .sl a lo n, y, h => by cases y <;> simp_all [beqV]
  | .m a, y, h => by cases y <;> simp_all [beqV]
  | .mp k v, y, h => by
    cases y with
    | mp k' v' => simp only [beqV, Bool.and_eq_true] at h; rw [beqDs_eq h.1, beqVs_eq h.2]
    | _ => simp [beqV] at h
  | .f g a b, y, h => by
    cases y with
    | f g' a' b' => simp only [beqV, Bool.and_eq_true, beq_iff_eq] at h; rw [h.1.1, beqVs_eq h.1.2, beqVs_eq h.2]
    | _ => simp [beqV] at h
  | .ag l, y, h => by
    cases y with
    | ag y => simp only [beqV] at h; rw [beqVs_eq h]
    | _ => simp [beqV] at h
  | .tu l, y, h => by
    cases y with
    | tu y => simp only [beqV] at h; rw [beqVs_eq h]
    | _ => simp [beqV] at h
theorem beqVs_eq : ∀ {x y : List AV}, beqVs x y = true → x = y
  | [], y, h => by cases y <;> simp_all [beqVs]
  | x :: l, y, h => by
    cases y with
    | nil => simp [beqVs] at h
    | cons y l' =>
      simp only [beqVs, Bool.and_eq_true] at h
      rw [beqV_eq h.1, beqVs_eq h.2]
end
/-! ### Kinds of operations -/
def Grow (h h' : Heap) : Prop := ∀ x ob, h.get x = some ob → ∃ ob', h'.get x = some ob' ∧ SameOb ob ob'
theorem Grow.refl (h : Heap) : Grow h h := fun x ob hx => ⟨ob, hx, SameOb.refl ob⟩
theorem Grow.trans {a b c : Heap} (h : Grow a b) (h' : Grow b c) : Grow a c := fun x ob hx => by
  obtain ⟨o1, h1, s1⟩ := h x ob hx
  obtain ⟨o2, h2, s2⟩ := h' x o1 h1
  exact ⟨o2, h2, s1.trans s2⟩
theorem Soft.grow {n : Nat} {h h' : Heap} (s : Soft n h h') : Grow h h' := s.old
theorem Grow.set {h : Heap} {k : Nat} {ob : Ob} (hk : h.get k = none) : Grow h (h.set k ob) := fun x o hx => by
  refine ⟨o, ?_, SameOb.refl o⟩
  rw [T.get_set, if_neg (by rintro rfl; rw [hk] at hx; cases hx)]; exact hx
theorem valD_pu {v : AV} {h h1 : Heap} {d : D} (hc : valD false v h = some (d, h1)) : h1 = h ∧ ∀ h2, valD false v h2 = some (d, h2) := by
  simp only [valD] at hc ⊢
  split at hc
  · split at hc
    · split at hc <;> simp_all
    · cases hc
  · cases hc
theorem fillD_pu {e : Env} {sz len : Nat} : ∀ {ps : List (Nat × Opd)} {l r : List D} {h h1 : Heap}, fillD false e sz len ps l h = some (r, h1) → h1 = h ∧ ∀ h2, fillD false e sz len ps l h2 = some (r, h2)
  | [], l, r, h, h1, hc => by simp only [fillD, Option.some.injEq, Prod.mk.injEq] at hc ⊢; simp_all
  | (i, x) :: ps, l, r, h, h1, hc => by
    simp only [fillD] at hc ⊢
    split at hc
    · rename_i d h3 hv
      obtain ⟨rfl, hv2⟩ := valD_pu hv
      split at hc
      · rename_i hb
        obtain ⟨rfl, h4⟩ := fillD_pu hc
        refine ⟨rfl, fun h2 => ?_⟩
        simp only [hv2 h2, hb]
        exact h4 h2
      · cases hc
    · cases hc
theorem fillD_soft {n : Nat} {e : Env} {sz len : Nat} : ∀ {ps : List (Nat × Opd)} {l r : List D} {h h1 : Heap}, fillD true e sz len ps l h = some (r, h1) → Soft n h h1
  | [], l, r, h, h1, hc => by simp only [fillD, Option.some.injEq, Prod.mk.injEq] at hc; rw [hc.2]; exact Soft.refl _ _
  | (i, x) :: ps, l, r, h, h1, hc => by
    simp only [fillD] at hc
    split at hc
    · rename_i d h3 hv
      split at hc
      · exact (toD_soft hv).trans (fillD_soft hc)
      · cases hc
    · cases hc
set_option maxHeartbeats 2000000 in
theorem pu_any {c : COp} {e : Env} {h h1 : Heap} {k : Nat} {v : AV} (hp : isPu c = true) (hc : evOp c e h k = some (v, h1)) : h1 = h ∧ ∀ h2 k2, evOp c e h2 k2 = some (v, h2) := by
  cases c with
  | bslice f z l ps =>
    cases f with
    | true => simp [isPu] at hp
    | false =>
      simp only [evOp] at hc ⊢
      split at hc
      · rename_i r h3 hf
        obtain ⟨rfl, h4⟩ := fillD_pu hf
        simp only [Option.some.injEq, Prod.mk.injEq] at hc
        obtain ⟨rfl, rfl⟩ := hc
        exact ⟨rfl, fun h2 k2 => by simp only [h4 h2]⟩
      · cases hc
  | mkf g a b =>
    simp only [evOp, bif_none, Option.some.injEq, Prod.mk.injEq] at hc ⊢
    exact ⟨hc.2.2.symm, fun h2 k2 => ⟨hc.1, hc.2.1, trivial⟩⟩
  | idxA n s x i =>
    simp only [evOp] at hc ⊢
    split at hc
    · simp only [bif_none] at hc ⊢
      obtain ⟨h0, hc⟩ := hc
      split at hc
      · simp_all
      · simp_all
      · cases hc
    · cases hc
  | idxV n s g x i =>
    simp only [evOp] at hc ⊢
    split at hc
    · simp only [bif_none] at hc ⊢
      obtain ⟨h0, hc⟩ := hc
      split at hc
      · split at hc
        · simp_all
        · cases hc
      · cases hc
    · cases hc
  | len b x => cases b <;> (simp only [evOp] at hc ⊢; split at hc <;> simp_all)
  | slS x lo hi =>
    simp only [evOp] at hc ⊢
    split at hc
    · split at hc
      · split at hc
        · simp_all
        · cases hc
      · cases hc
    · cases hc
  | mv x => simp only [evOp, Option.some.injEq, Prod.mk.injEq] at hc ⊢; simp_all
  | idx x i =>
    simp only [evOp] at hc ⊢
    split at hc
    · split at hc
      · simp_all
      · cases hc
    · cases hc
  | pick a b c => simp only [evOp] at hc ⊢; split at hc <;> simp_all
  | build z ps => simp only [evOp] at hc ⊢; split at hc <;> simp_all
  | nilc x => simp only [evOp] at hc ⊢; split at hc <;> simp_all
  | bin o t x y => simp only [evOp] at hc ⊢; split at hc <;> simp_all
  | un o x => simp only [evOp] at hc ⊢; split at hc <;> simp_all
  | conv o x => simp only [evOp] at hc ⊢; split at hc <;> simp_all
  | cvs x => simp only [evOp] at hc ⊢; split at hc <;> simp_all
  | s2b x => simp only [evOp] at hc ⊢; split at hc <;> simp_all
  | fld o x => simp only [evOp] at hc ⊢; split at hc <;> simp_all
  | ext x i =>
    simp only [evOp] at hc ⊢
    split at hc
    · split at hc
      · simp_all
      · cases hc
    · cases hc
  | max x y => simp only [evOp] at hc ⊢; split at hc <;> simp_all
  | min x y => simp only [evOp] at hc ⊢; split at hc <;> simp_all
  | _ => simp [isPu] at hp
theorem same_box {l : List AV} {ob : Ob} (h : SameOb (.box l) ob) : ob = .box l := h
theorem same_map {k : List D} {v : List AV} {ob : Ob} (h : SameOb (.map k v) ob) : ob = .map k v := h
end Tm
/- Reads, new objects and soft operations. No statement of the seat is proved here. -/
namespace Tm
open Go
set_option linter.unusedVariables false
set_option linter.unusedSimpArgs false
/-- The name that a read looks up. -/
def nmA : AV → Nat
  | .p a _ => a
  | .sl a _ _ => a
  | .m a => a
  | _ => 0
def rdAt (c : COp) (e : Env) : Nat :=
  match c with
  | .load _ x => nmA (x.ev e)
  | .look _ _ x _ _ => nmA (x.ev e)
  | .sl _ x _ _ _ => nmA (x.ev e)
  | .b2s x => nmA (x.ev e)
  | .idxa _ x _ => nmA (x.ev e)
  | _ => 0
def GrowAt (a : Nat) (h h' : Heap) : Prop := ∀ ob, h.get a = some ob → ∃ ob', h'.get a = some ob' ∧ SameOb ob ob'
theorem row_grow {h h2 : Heap} {a s : Nat} {l : List D} {z : Bool} (hg : GrowAt a h h2) (ho : h.get a = some (.row s l z)) : ∃ z2, h2.get a = some (.row s l z2) := by
  obtain ⟨ob', h1, z2, rfl⟩ := hg _ ho
  exact ⟨z2, h1⟩
theorem loadA_grow {n : Option Nat} {x : AV} {h h2 : Heap} {v : AV} (hg : GrowAt (nmA x) h h2) (hc : loadA n x h = some v) : loadA n x h2 = some v := by
  unfold loadA at hc ⊢
  split at hc
  · split at hc
    · rename_i ho
      obtain ⟨ob', h1, h3⟩ := hg _ ho
      cases same_box h3
      simp only [nmA] at h1
      simp only [h1]; exact hc
    · rename_i ho
      obtain ⟨ob', h1, z, rfl⟩ := hg _ ho
      simp only [nmA] at h1
      simp only [h1]; exact hc
    · cases hc
  · exact hc
  · cases hc
theorem elems_grow {x : AV} {h h2 : Heap} {l : List D} (hg : GrowAt (nmA x) h h2) (hc : elems x h = some l) : elems x h2 = some l := by
  unfold elems at hc ⊢
  split at hc
  · exact hc
  · exact hc
  · exact hc
  · exact hc
  · split at hc
    · rename_i ho
      obtain ⟨ob', h1, z, rfl⟩ := hg _ ho
      simp only [nmA] at h1
      simp only [h1]; exact hc
    · cases hc
  · cases hc
theorem room_grow {x : AV} {h h2 : Heap} {r : Nat × Nat} (hg : GrowAt (nmA x) h h2) (hc : room x h = some r) : room x h2 = some r := by
  unfold room at hc ⊢
  split at hc
  · split at hc
    · rename_i ho
      obtain ⟨ob', h1, z, rfl⟩ := hg _ ho
      simp only [nmA] at h1
      simp only [h1]; exact hc
    · cases hc
  · exact hc
  · exact hc
  · exact hc
  · exact hc
  · cases hc
set_option maxHeartbeats 2000000 in
theorem read_at {c : COp} {e : Env} {h h1 : Heap} {k : Nat} {v : AV} (hp : isRd c = true) (hc : evOp c e h k = some (v, h1)) : h1 = h ∧ ∀ h2 k2, GrowAt (rdAt c e) h h2 → evOp c e h2 k2 = some (v, h2) := by
  have pu : isPu c = true → h1 = h ∧ ∀ h2 k2, GrowAt (rdAt c e) h h2 → evOp c e h2 k2 = some (v, h2) := fun hp => by
    obtain ⟨e1, e2⟩ := pu_any hp hc
    exact ⟨e1, fun h2 k2 _ => e2 h2 k2⟩
  cases c with
  | load n x =>
    simp only [evOp] at hc ⊢
    split at hc
    · rename_i v' hl
      simp only [Option.some.injEq, Prod.mk.injEq] at hc
      obtain ⟨rfl, rfl⟩ := hc
      exact ⟨rfl, fun h2 k2 hg => by simp only [loadA_grow (hg : GrowAt (nmA (x.ev e)) _ _) hl]⟩
    · cases hc
  | b2s x =>
    simp only [evOp] at hc ⊢
    split at hc
    · rename_i l hl
      split at hc
      · rename_i bs hb
        simp only [Option.some.injEq, Prod.mk.injEq] at hc
        obtain ⟨rfl, rfl⟩ := hc
        exact ⟨rfl, fun h2 k2 hg => by simp only [elems_grow (hg : GrowAt (nmA (x.ev e)) _ _) hl, hb]⟩
      · cases hc
    · cases hc
  | look s z x kk ok =>
    simp only [evOp] at hc ⊢
    split at hc
    · rename_i kd hk
      simp only [bif_none] at hc ⊢
      obtain ⟨hkey, hc⟩ := hc
      cases hx : x.ev e with
      | m a =>
        simp only [hx] at hc ⊢
        cases ho : h.get a with
        | none => simp [ho] at hc
        | some ob =>
          cases ob with
          | map ks vs =>
            have hm : ∀ h2, GrowAt (rdAt (.look s z x kk ok) e) h h2 → h2.get a = some (.map ks vs) := fun h2 hg => by
              have hg' : GrowAt a h h2 := by simpa only [rdAt, hx, nmA] using hg
              obtain ⟨ob', h3, h4⟩ := hg' _ ho
              cases same_map h4
              exact h3
            simp only [ho] at hc
            split at hc
            · rename_i hl
              simp only [Option.some.injEq, Prod.mk.injEq] at hc
              obtain ⟨rfl, rfl⟩ := hc
              exact ⟨rfl, fun h2 k2 hg => by simp only [hm h2 hg, hl, hkey, true_and]⟩
            · rename_i hl
              simp only [Option.some.injEq, Prod.mk.injEq] at hc
              obtain ⟨rfl, rfl⟩ := hc
              exact ⟨rfl, fun h2 k2 hg => by simp only [hm h2 hg, hl, hkey, true_and]⟩
            · cases hc
          | _ => simp [ho] at hc
      | _ =>
        simp only [hx] at hc ⊢
        first
          | (split at hc <;> simp_all; done)
          | (simp_all; done)
    · cases hc
  | sl sz x lo hi mx =>
    cases mx with
    | none =>
      simp only [evOp] at hc ⊢
      cases hx : x.ev e with
      | sl a l0 m =>
        simp only [hx] at hc ⊢
        cases ho : h.get a with
        | none => simp [ho] at hc
        | some ob =>
          cases ob with
          | row s l z =>
            simp only [ho, bif_none] at hc
            obtain ⟨hs, hc⟩ := hc
            split at hc
            · rename_i b hb
              split at hc
              · rename_i k1 hk1
                simp only [Option.some.injEq, Prod.mk.injEq] at hc
                obtain ⟨rfl, rfl⟩ := hc
                refine ⟨rfl, fun h2 k2 hg => ?_⟩
                obtain ⟨z2, h3⟩ := row_grow (a := a) (by simpa only [rdAt, hx, nmA] using hg) ho
                simp only [h3, hs, cond_true, hb, hk1]
              · cases hc
            · cases hc
          | _ => simp [ho] at hc
      | d x =>
        simp only [hx] at hc ⊢
        cases x with
        | sl l =>
          simp only [bif_none] at hc ⊢
          obtain ⟨hs, hc⟩ := hc
          split at hc
          · split at hc
            · simp_all
            · cases hc
          · cases hc
        | se =>
          simp only at hc ⊢
          split at hc
          · split at hc
            · simp_all
            · cases hc
          · cases hc
        | _ => simp at hc
      | zl l =>
        simp only [hx, bif_none] at hc ⊢
        obtain ⟨hs, hc⟩ := hc
        split at hc
        · split at hc
          · simp_all
          · cases hc
        · cases hc
      | bs l =>
        simp only [hx, bif_none] at hc ⊢
        obtain ⟨hs, hc⟩ := hc
        split at hc
        · split at hc
          · simp_all
          · cases hc
        · cases hc
      | _ => simp [hx] at hc
    | some mx =>
      simp only [evOp] at hc ⊢
      split at hc
      · rename_i n r hr
        split at hc
        · rename_i c1 h1
          split at hc
          · rename_i b1 h2
            split at hc
            · rename_i k1 h3
              cases hb : (c1 == b1 && k1 == b1) with
              | true =>
                simp only [hb, cond_true, Option.some.injEq, Prod.mk.injEq] at hc
                obtain ⟨rfl, rfl⟩ := hc
                exact ⟨rfl, fun h2' k2 hg => by simp only [room_grow (hg : GrowAt (nmA (x.ev e)) _ _) hr, h1, h2, h3, hb, cond_true]⟩
              | false =>
                simp only [hb, cond_false, Option.some.injEq, Prod.mk.injEq] at hc
                obtain ⟨rfl, rfl⟩ := hc
                exact ⟨rfl, fun h2' k2 hg => by simp only [room_grow (hg : GrowAt (nmA (x.ev e)) _ _) hr, h1, h2, h3, hb, cond_false]⟩
            · cases hc
          · cases hc
        · cases hc
      · cases hc
  | idxa sz x i =>
    simp only [evOp] at hc ⊢
    split at hc
    · rename_i iv hi
      cases hx : x.ev e with
      | sl a lo m =>
        simp only [hx, bif_none] at hc ⊢
        obtain ⟨hlt, hc⟩ := hc
        split at hc
        · rename_i s l z ho
          simp only [bif_none, Option.some.injEq, Prod.mk.injEq] at hc
          obtain ⟨hs, rfl, rfl⟩ := hc
          refine ⟨rfl, fun h2 k2 hg => ⟨hlt, ?_⟩⟩
          obtain ⟨z2, h3⟩ := row_grow (a := a) (by simpa only [rdAt, hx, nmA] using hg) ho
          simp only [h3, hs, cond_true]
        · cases hc
      | d x =>
        cases x with
        | sl l =>
          simp only [hx] at hc ⊢
          split at hc
          · rename_i y hy
            simp only [bif_none, Option.some.injEq, Prod.mk.injEq] at hc
            obtain ⟨hs, rfl, rfl⟩ := hc
            exact ⟨rfl, fun h2 k2 hg => by simp only [hs, cond_true]⟩
          · cases hc
        | _ => simp [hx] at hc
      | zl l =>
        simp only [hx] at hc ⊢
        split at hc
        · rename_i y hy
          simp only [bif_none, Option.some.injEq, Prod.mk.injEq] at hc
          obtain ⟨hs, rfl, rfl⟩ := hc
          exact ⟨rfl, fun h2 k2 hg => by simp only [hs, cond_true]⟩
        · cases hc
      | bs l =>
        simp only [hx] at hc ⊢
        split at hc
        · rename_i y hy
          simp only [bif_none, Option.some.injEq, Prod.mk.injEq] at hc
          obtain ⟨hs, rfl, rfl⟩ := hc
          exact ⟨rfl, fun h2 k2 hg => by simp only [hs, cond_true]⟩
        · cases hc
      | _ => simp [hx] at hc
    · cases hc
  | _ => exact pu hp
theorem read_grow {c : COp} {e : Env} {h h1 : Heap} {k : Nat} {v : AV} (hp : isRd c = true) (hc : evOp c e h k = some (v, h1)) : h1 = h ∧ ∀ h2 k2, Grow h h2 → evOp c e h2 k2 = some (v, h2) := by
  obtain ⟨e1, e2⟩ := read_at hp hc
  exact ⟨e1, fun h2 k2 hg => e2 h2 k2 fun ob ho => hg _ ob ho⟩
/-- A new object: what it holds, and its name. -/
theorem al_any {c : COp} {e : Env} {h h1 : Heap} {k : Nat} {v : AV} (hp : isAl c = true) (hc : evOp c e h k = some (v, h1)) :
    (h1 = h ∧ ∀ h2, evOp c e h2 k = some (v, h2)) ∨ ∃ ob, h1 = h.set k ob ∧ (∀ h2, evOp c e h2 k = some (v, h2.set k ob)) ∧
      (∀ (n0 i : Nat) (s : St) (d : Option Nat) (g : Option (Nat × Bool)), k = n0 + i → (∀ t ∈ c.ts, s.e.get t = e.get t) → wants s.e g = some true → again n0 s (i, d, g, c) = true → s.h.get k = some ob) ∧ ((∀ l, ob ≠ .box l) → (∀ a b, ob ≠ .map a b) → ∃ z l c', c = .mkslice z l c') := by
  cases c with
  | alloc zs =>
    simp only [evOp, Option.some.injEq, Prod.mk.injEq] at hc
    obtain ⟨rfl, rfl⟩ := hc
    refine .inr ⟨_, rfl, fun _ => rfl, ?_, fun h0 => absurd rfl (h0 zs)⟩
    rintro n0 i s d g rfl ht hw ha
    simp only [again, hw] at ha
    split at ha
    · rename_i l hl
      rw [hl, beqVs_eq ha]
    · cases ha
  | box x =>
    simp only [evOp] at hc ⊢
    split at hc
    · rename_i l hl
      simp only [Option.some.injEq, Prod.mk.injEq] at hc
      obtain ⟨rfl, rfl⟩ := hc
      refine .inr ⟨_, rfl, fun _ => rfl, ?_, fun h0 => absurd rfl (h0 l)⟩
      rintro n0 i s d g rfl ht hw ha
      simp only [again, hw] at ha
      rw [Opd.ev_congr (x := x) ht] at ha
      split at ha
      · rename_i l1 l2 h1 h2
        rw [hl] at h2
        cases h2
        rw [h1, beqVs_eq ha]
      · cases ha
    · cases hc
  | mkmap =>
    simp only [evOp, Option.some.injEq, Prod.mk.injEq] at hc
    obtain ⟨rfl, rfl⟩ := hc
    refine .inr ⟨_, rfl, fun _ => rfl, ?_, fun _ h0 => absurd rfl (h0 [] [])⟩
    rintro n0 i s d g rfl ht hw ha
    simp only [again, hw] at ha
    cases ho : s.h.get (n0 + i) with
    | none => simp [ho] at ha
    | some ob =>
      cases ob with
      | map ks vs => cases ks <;> cases vs <;> simp_all
      | _ => simp [ho] at ha
  | mkslice zs l c =>
    simp only [evOp] at hc ⊢
    split at hc
    · simp only [Option.some.injEq, Prod.mk.injEq] at hc
      obtain ⟨rfl, rfl⟩ := hc
      exact .inl ⟨rfl, fun _ => rfl⟩
    · rename_i lv cv hne hl hcv
      simp only [bif_none, Option.some.injEq, Prod.mk.injEq] at hc
      obtain ⟨hb, rfl, rfl⟩ := hc
      refine .inr ⟨_, rfl, fun _ => by simp only [hb, cond_true], ?_, fun _ _ => ⟨zs, l, c, rfl⟩⟩
      rintro n0 i s d g rfl ht hw ha
      simp only [COp.ts, List.forall_mem_append] at ht
      simp only [again, hw] at ha
      rw [Opd.ev_congr (x := l) ht.1, hl] at ha
      split at ha
      · rename_i sz r l2 h1 h2
        simp only [Option.some.injEq] at h2
        subst h2
        simp only [Bool.and_eq_true, beq_iff_eq] at ha
        rw [h1, beqDs_eq ha.2, ha.1]
      · cases ha
    · cases hc
  | _ => simp [isAl] at hp
theorem again_rd {c : COp} {n0 i d : Nat} {g : Option (Nat × Bool)} {s : St} (hp : isRd c = true) (hw : wants s.e g = some true) (ha : again n0 s (i, some d, g, c) = true) : ∃ v h', evOp c s.e s.h (n0 + i) = some (v, h') ∧ v = (s.e.get d).getD .u := by
  have key : ∀ {o : R1}, (match o, some d with | some (v, _), some t => beqV v ((s.e.get t).getD .u) | _, _ => false) = true → ∃ v h', o = some (v, h') ∧ v = (s.e.get d).getD .u := by
    intro o ho
    cases o with
    | none => simp at ho
    | some p => obtain ⟨v, h'⟩ := p; exact ⟨v, h', rfl, beqV_eq ho⟩
  cases c <;> first
    | (simp [isRd, isPu] at hp; done)
    | (simp only [again, hw] at ha; exact key ha)
theorem so_grow {pu : Nat → Bool} {C : CallF} (hpu : ∀ g args h n v h' n', pu g = true → C g args h n = some (v, h', n') → Soft n h h') {c : COp} {s : St} {k n1 : Nat} {v : AV} {h1 : Heap} (hp : isSo pu c = true) (hc : doOp C c s k = some (v, h1, n1)) : Grow s.h h1 := by
  have ev : ∀ {o : R1}, (match o with | some (v, h) => some (v, h, s.n) | none => (none : R)) = some (v, h1, n1) → o = some (v, h1) := by
    intro o ho
    cases o with
    | none => simp at ho
    | some p => obtain ⟨v', h'⟩ := p; simp only [Option.some.injEq, Prod.mk.injEq] at ho; rw [ho.1, ho.2.1]
  have pur : isPu c = true → evOp c s.e s.h k = some (v, h1) → Grow s.h h1 := fun h2 h3 => by
    rw [(pu_any h2 h3).1]; exact Grow.refl _
  cases c with
  | call g l => exact (hpu g _ _ _ _ _ _ hp hc).grow
  | bslice f z l ps =>
    have h2 := ev hc
    simp only [evOp] at h2
    split at h2
    · rename_i r h3 hf
      simp only [Option.some.injEq, Prod.mk.injEq] at h2
      obtain ⟨_, rfl⟩ := h2
      cases f with
      | true => exact (fillD_soft (n := s.n) hf).grow
      | false => rw [(fillD_pu hf).1]; exact Grow.refl _
    · cases h2
  | callv x l => simp [isSo, isPu] at hp
  | _ => exact pur hp (ev hc)
/-- What is not a call hands out no names. -/
theorem doOp_ev {C : CallF} {c : COp} {s : St} {k n1 : Nat} {v : AV} {h1 : Heap} (hc : doOp C c s k = some (v, h1, n1)) (hn : isCall c = false) : evOp c s.e s.h k = some (v, h1) ∧ n1 = s.n := by
  cases c <;> first
    | (simp [isCall] at hn; done)
    | (simp only [doOp] at hc
       split at hc
       · rename_i hh
         simp only [Option.some.injEq, Prod.mk.injEq] at hc
         obtain ⟨rfl, rfl, rfl⟩ := hc
         exact ⟨hh, rfl⟩
       · cases hc)
theorem doOp_of {C : CallF} {c : COp} {s : St} {k : Nat} {v : AV} {h1 : Heap} (hn : isCall c = false) (hc : evOp c s.e s.h k = some (v, h1)) : doOp C c s k = some (v, h1, s.n) := by
  cases c <;> first
    | (simp [isCall] at hn; done)
    | (simp only [doOp, hc])
theorem RH.congr {I : Inj} {M : Mem} {h h' : Heap} (hH : RH I M h) (hc : ∀ x ob, I x ≠ none → h'.get x = some ob → h.get x = some ob) : RH I M h' where
  wf := hH.wf
  lo := hH.lo
  ob := fun a ob q ha hq => hH.ob a ob q (hc a ob (by rw [hq]; simp) ha) hq
  inj := fun a a' ob ob' q q' ha ha' hq hq' hne => hH.inj a a' ob ob' q q' (hc a ob (by rw [hq]; simp) ha) (hc a' ob' (by rw [hq']; simp) ha') hq hq' hne
  cp := fun a ob q ha hq => hH.cp a ob q (hc a ob (by rw [hq]; simp) ha) hq
end Tm
/- Regions that draw their order: what the translation has checked. No statement of the seat is proved here. -/
namespace Tm
open Go
set_option linter.unusedVariables false
set_option linter.unusedSimpArgs false
/-! ### The run -/
def Stp (C : CallF) (n0 : Nat) (s : St) (i : Nat) (o : COper) (s' : St) : Prop :=
  (wants s.e o.guard = some true ∧ ∃ v h n, doOp C o.op s (n0 + i) = some (v, h, n) ∧ s' = ⟨putE s.e o.dst v, h, n⟩ ∧ fresh s.h (n0 + i) o.op = true ∧ o.chk.all (again n0 s') = true ∧ apart s.e o = true) ∨
  (wants s.e o.guard = some false ∧ s' = ⟨putE s.e o.dst (.tu []), s.h, s.n⟩)
theorem evOps_states {C : CallF} {n0 : Nat} : ∀ {l : List (Nat × COper)} {s s' : St}, evOps C n0 l s = some s' → ∃ S : Nat → St, S 0 = s ∧ S l.length = s' ∧ ∀ k i o, l[k]? = some (i, o) → Stp C n0 (S k) i o (S (k + 1))
  | [], s, s', h => by
    simp only [evOps, Option.some.injEq] at h
    exact ⟨fun _ => s, rfl, h, fun k i o hk => by simp at hk⟩
  | (i0, o0) :: l, s, s', h => by
    have go : ∀ s1, Stp C n0 s i0 o0 s1 → evOps C n0 l s1 = some s' → ∃ S : Nat → St, S 0 = s ∧ S ((i0, o0) :: l).length = s' ∧ ∀ k i o, ((i0, o0) :: l)[k]? = some (i, o) → Stp C n0 (S k) i o (S (k + 1)) := by
      intro s1 h1 h2
      obtain ⟨S, e1, e2, e3⟩ := evOps_states h2
      refine ⟨fun k => match k with | 0 => s | k + 1 => S k, rfl, e2, fun k i o hk => ?_⟩
      cases k with
      | zero =>
        simp only [List.getElem?_cons_zero, Option.some.injEq, Prod.mk.injEq] at hk
        obtain ⟨rfl, rfl⟩ := hk
        simp only [e1]; exact h1
      | succ k => exact e3 k i o (by simpa using hk)
    simp only [evOps] at h
    split at h
    · cases h
    · rename_i hw
      split at h
      · rename_i v h' n hd
        split at h
        · rename_i hb
          simp only [Bool.and_eq_true] at hb
          exact go _ (.inl ⟨hw, v, h', n, hd, rfl, hb.1.1, hb.1.2, hb.2⟩) h
        · cases h
      · cases h
    · rename_i hw
      exact go _ (.inr ⟨hw, rfl⟩) h
/-! ### The checks -/
section
variable {P : Program} {G : Nat → Option AV} {pu : Nat → Bool} {N : Nat} {all : Array Oper} {cs : List Cl} {anc : List Nat}
def wrOf : List (Nat × Oper) → List Nat → List Nat
  | [], wr => wr
  | (_, o) :: l, wr => wrOf l (match o.dst with | some d => d :: wr | none => wr)
theorem wrOf_mem {t : Nat} : ∀ {l : List (Nat × Oper)} {wr : List Nat}, (t ∈ wr ∨ ∃ j o, (j, o) ∈ l ∧ o.dst = some t) → t ∈ wrOf l wr
  | [], wr, h => by
    rcases h with h | ⟨j, o, h, _⟩
    · exact h
    · simp at h
  | (i, o) :: l, wr, h => by
    simp only [wrOf]
    refine wrOf_mem ?_
    rcases h with h | ⟨j, o', h, hd⟩
    · left
      cases o.dst with
      | none => exact h
      | some d => exact List.mem_cons_of_mem _ h
    · rcases List.mem_cons.1 h with h | h
      · cases h
        left
        simp [hd]
      · exact .inr ⟨j, o', h, hd⟩
theorem checks_get {a i : Nat} {o : Oper} {sk : Option Nat} : ∀ {l : List (Nat × Oper)} {wr r : List Nat}, checks cs all a i o sk l wr = some r → ∀ p1 q oq p2, l = p1 ++ (q, oq) :: p2 →
    a.testBit q = true ∨ (freeTmp all oq o = true ∧ (eitherWay (cs.getD q .p) (cs.getD i .p) (isMk oq.op) (sk == some q) = some false ∨ (eitherWay (cs.getD q .p) (cs.getD i .p) (isMk oq.op) (sk == some q) = some true ∧ calm all oq o (wrOf p1 wr) = true ∧ q ∈ r)))
  | [], wr, r, h, p1, q, oq, p2, e => by simp at e
  | (q0, o0) :: l, wr, r, h, p1, q, oq, p2, e => by
    simp only [checks] at h
    split at h
    · cases h
    · rename_i r1 h1
      cases p1 with
      | nil =>
        simp only [List.nil_append, List.cons.injEq, Prod.mk.injEq] at e
        obtain ⟨⟨rfl, rfl⟩, rfl⟩ := e
        cases ha : a.testBit q0 with
        | true => exact .inl rfl
        | false =>
          simp only [ha, cond_false, bif_none] at h
          obtain ⟨hf, h⟩ := h
          refine .inr ⟨hf, ?_⟩
          split at h
          · rename_i he; exact .inl he
          · rename_i he
            simp only [bif_none, Option.some.injEq] at h
            obtain ⟨hc, rfl⟩ := h
            exact .inr ⟨he, hc, by simp⟩
          · cases h
      | cons x p1 =>
        simp only [List.cons_append, List.cons.injEq] at e
        obtain ⟨rfl, rfl⟩ := e
        have := checks_get h1 p1 q oq p2 rfl
        have hsub : ∀ x, x ∈ r1 → x ∈ r := by
          cases ha : a.testBit q0 with
          | true => simp only [ha, cond_true, Option.some.injEq] at h; subst h; exact fun _ h => h
          | false =>
            simp only [ha, cond_false, bif_none] at h
            obtain ⟨hf, h⟩ := h
            split at h
            · simp only [Option.some.injEq] at h; subst h; exact fun _ h => h
            · simp only [bif_none, Option.some.injEq] at h
              obtain ⟨_, rfl⟩ := h
              exact fun _ h => List.mem_cons_of_mem _ h
            · cases h
        rcases this with h2 | ⟨h2, h3 | ⟨h3, h4, h5⟩⟩
        · exact .inl h2
        · exact .inr ⟨h2, .inl h3⟩
        · exact .inr ⟨h2, .inr ⟨h3, h4, hsub _ h5⟩⟩
theorem chkOf_get : ∀ {ql : List Nat} {l : List (Nat × Option Nat × Option (Nat × Bool) × COp)}, chkOf P G N all ql = some l → ∀ q ∈ ql, ∃ o c, all[q]? = some o ∧ compOper P G N all false o = some c ∧ (q, c.dst, c.guard, c.op) ∈ l
  | [], l, h, q, hq => by simp at hq
  | q0 :: ql, l, h, q, hq => by
    simp only [chkOf] at h
    split at h
    · rename_i o r ho hr
      split at h
      · rename_i c hc
        simp only [Option.some.injEq] at h
        subst h
        rcases List.mem_cons.1 hq with rfl | hq
        · exact ⟨o, c, ho, hc, by simp⟩
        · obtain ⟨o2, c2, e1, e2, e3⟩ := chkOf_get hr q hq
          exact ⟨o2, c2, e1, e2, List.mem_cons_of_mem _ e3⟩
      · cases h
    · cases h
theorem pairOf_get {i : Nat} {o : Oper} {pre : List (Nat × Oper)} {q : Nat} {x : Operand} (h : pairOf cs anc all i o pre = some (q, x)) : ∃ oq s v, (q, oq) ∈ pre ∧ isSt o.op = true ∧ (anc.getD i 0).testBit q = false ∧ oq.op = .store s x v ∧ ∀ r or, (r, or) ∈ pre → (r = q ∨ cs.getD r .p = .p ∨ cs.getD r .p = .r ∨ ((anc.getD i 0).testBit r = true ∧ (anc.getD q 0).testBit r = true)) ∧ ((anc.getD q 0).testBit r = true ∨ ∀ t ∈ looks all oq, or.dst ≠ some t) := by
  unfold pairOf at h
  split at h
  · cases h
  · rename_i q1 oq hf
    have h1 := List.mem_of_find?_eq_some hf
    have h2 := List.find?_some hf
    simp only [Bool.and_eq_true, Bool.not_eq_true'] at h2
    split at h
    · rename_i s x1 v hs
      simp only [bif_none, Option.some.injEq, Prod.mk.injEq, List.all_eq_true] at h
      obtain ⟨h3, rfl, rfl⟩ := h
      refine ⟨oq, s, v, h1, h2.1.2, h2.2, hs, fun r or hr => ?_⟩
      have := h3 (r, or) hr
      simp only [Bool.or_eq_true, Bool.and_eq_true, beq_iff_eq] at this
      obtain ⟨this, h5⟩ := this
      refine ⟨?_, h5.imp id fun h6 t ht hd => ?_⟩
      · rcases this with ((h4 | h4) | h4) | h4
        · exact .inl h4
        · exact .inr (.inl h4)
        · exact .inr (.inr (.inl h4))
        · exact .inr (.inr (.inr h4))
      · rw [hd] at h6
        simp at h6
        exact h6 ht
    · cases h
structure Ent (P : Program) (G : Nat → Option AV) (pu : Nat → Bool) (cs : List Cl) (N : Nat) (all : Array Oper) (anc : List Nat) (pre : List (Nat × Oper)) (i : Nat) (o : Oper) (co : COper) : Prop where
  edge : ∀ e ∈ o.after.toList, Region.binds .any e = true → ∃ oj, (e.on, oj) ∈ pre
  new : ∀ j oj, (j, oj) ∈ pre → j ≠ i
  comp : ∃ c0, compOper P G N all (cs.getD i .p == .c) o = some c0 ∧ c0.op = co.op ∧ c0.guard = co.guard ∧ c0.dst = co.dst
  ts : ∀ t ∈ co.op.ts, t ∈ looks all o
  cls : clOK pu (cs.getD i .p) co.op = true
  mks : mkOK o.op co.op = true
  chk : ∃ sk q, checks cs all (anc.getD i 0) i o sk pre [] = some q ∧ chkOf P G N all q = some co.chk ∧ (sk = none ∨ ∃ y x X, sk = some y ∧ pairOf cs anc all i o pre = some (y, x) ∧ opd G x = some X ∧ co.dis = some X)
theorem drawnOps_get : ∀ {c : List (Nat × Oper)} {pre : List (Nat × Oper)} {cl : List (Nat × COper)}, drawnOps P G pu cs N all anc pre c = some cl → cl.length = c.length ∧ ∀ k i o, c[k]? = some (i, o) → ∃ co, cl[k]? = some (i, co) ∧ Ent P G pu cs N all anc ((c.take k).reverse ++ pre) i o co
  | [], pre, cl, h => by
    simp only [drawnOps, Option.some.injEq] at h
    subst h
    exact ⟨rfl, fun k i o hk => by simp at hk⟩
  | (i0, o0) :: c, pre, cl, h => by
    simp only [drawnOps, bif_none] at h
    obtain ⟨hb, h⟩ := h
    simp only [Bool.and_eq_true, List.all_eq_true, Bool.or_eq_true, Bool.not_eq_true', List.any_eq_true, List.any_eq_false] at hb
    obtain ⟨hb1, hb2⟩ := hb
    split at h
    · rename_i c0 l hc0 hl
      simp only [bif_none, Bool.and_eq_true, List.all_eq_true] at h
      obtain ⟨⟨⟨hts, hcls⟩, hmk⟩, h⟩ := h
      obtain ⟨hlen, hget⟩ := drawnOps_get hl
      have edge : ∀ e ∈ o0.after.toList, Region.binds .any e = true → ∃ oj, (e.on, oj) ∈ pre := fun e he hbe => by
        rcases hb1 e he with h1 | ⟨⟨j, oj⟩, h1, h2⟩
        · rw [hbe] at h1; cases h1
        · simp only [beq_iff_eq] at h2
          subst h2
          exact ⟨oj, h1⟩
      have new : ∀ j oj, (j, oj) ∈ pre → j ≠ i0 := fun j oj hj e => by
        have := hb2 (j, oj) hj
        simp only [beq_iff_eq] at this
        exact this e
      have ts : ∀ t ∈ c0.op.ts, t ∈ looks all o0 := fun t ht => by simpa using hts t ht
      have fin : ∀ co, c0.op = co.op → c0.guard = co.guard → c0.dst = co.dst → cl = (i0, co) :: l → (∃ sk q, checks cs all (anc.getD i0 0) i0 o0 sk pre [] = some q ∧ chkOf P G N all q = some co.chk ∧ (sk = none ∨ ∃ y x X, sk = some y ∧ pairOf cs anc all i0 o0 pre = some (y, x) ∧ opd G x = some X ∧ co.dis = some X)) →
          cl.length = ((i0, o0) :: c).length ∧ ∀ k i o, ((i0, o0) :: c)[k]? = some (i, o) → ∃ co, cl[k]? = some (i, co) ∧ Ent P G pu cs N all anc ((((i0, o0) :: c).take k).reverse ++ pre) i o co := by
        intro co e1 e2 e3 e4 e5
        subst e4
        refine ⟨by simp [hlen], fun k i o hk => ?_⟩
        cases k with
        | zero =>
          simp only [List.getElem?_cons_zero, Option.some.injEq, Prod.mk.injEq] at hk
          obtain ⟨rfl, rfl⟩ := hk
          exact ⟨co, rfl, edge, new, ⟨c0, hc0, e1, e2, e3⟩, e1 ▸ ts, e1 ▸ hcls, e1 ▸ hmk, e5⟩
        | succ k =>
          obtain ⟨co', h1, h2⟩ := hget k i o (by simpa using hk)
          refine ⟨co', by simpa using h1, ?_⟩
          simpa using h2
      split at h
      · rename_i q hq
        split at h
        · rename_i ql hql
          simp only [Option.some.injEq] at h
          exact fin { c0 with chk := ql } rfl rfl rfl h.symm ⟨none, q, hq, hql, .inl rfl⟩
        · cases h
      · split at h
        · rename_i y x hyx
          split at h
          · rename_i ql X hql hX
            split at h
            · rename_i ql2 hql2
              simp only [Option.some.injEq] at h
              exact fin { c0 with chk := ql2, dis := some X } rfl rfl rfl h.symm ⟨some y, ql, hql, hql2, .inr ⟨y, x, X, rfl, hyx, hX, rfl⟩⟩
            · cases h
          · cases h
        · cases h
    · cases h
theorem canon_mem {cs : List Cl} {ops : List (Nat × Oper)} : ∀ {f done : Nat} {x : Nat × Oper}, x ∈ canon cs anc ops f done → x ∈ ops
  | 0, _, _, h => by simp [canon] at h
  | f + 1, done, x, h => by
    simp only [canon] at h
    split at h
    · rename_i i o hf
      have h1 := List.mem_of_find?_eq_some hf
      rcases List.mem_cons.1 h with rfl | h
      · exact (List.mem_filter.1 h1).1
      · exact canon_mem h
    · split at h
      · rename_i i o r hr
        rcases List.mem_cons.1 h with rfl | h
        · have : (i, o) ∈ (i, o) :: r := by simp
          rw [← hr] at this
          exact (List.mem_filter.1 this).1
        · exact canon_mem h
      · simp at h
theorem zip_mem {ops : Array Oper} {i : Nat} {o : Oper} (h : (i, o) ∈ ops.toList.zipIdx.map fun (o, i) => (i, o)) : ops[i]? = some o := by
  simp only [List.mem_map, Prod.mk.injEq] at h
  obtain ⟨⟨o', i'⟩, h1, rfl, rfl⟩ := h
  have := List.mem_zipIdx_iff_getElem?.1 h1
  simpa using this
/-! ### What comes before what -/
def AncGood (res : List Nat) (os : List Oper) : Prop := ∀ i, i < res.length → ∀ q, (res.getD i 0).testBit q = true → ∃ o, os[i]? = some o ∧ ∃ e ∈ o.after.toList, Region.binds .any e = true ∧ (q = e.on ∨ (res.getD e.on 0).testBit q = true)
theorem ancFold {acc : List Nat} {q : Nat} : ∀ {es : List Go.Edge} {s : Nat}, (es.foldl (fun s e => bif Region.binds .any e then s ||| 2 ^ e.on ||| acc.getD e.on 0 else s) s).testBit q = true → s.testBit q = true ∨ ∃ e ∈ es, Region.binds .any e = true ∧ (q = e.on ∨ (acc.getD e.on 0).testBit q = true)
  | [], s, h => .inl h
  | e :: es, s, h => by
    rw [List.foldl_cons] at h
    rcases ancFold h with h1 | ⟨e', h1, h2⟩
    · cases hb : Region.binds .any e with
      | false => rw [hb] at h1; exact .inl h1
      | true =>
        rw [hb] at h1
        simp only [cond_true, Nat.testBit_or, Bool.or_eq_true, Nat.testBit_two_pow, decide_eq_true_eq] at h1
        rcases h1 with (h1 | h1) | h1
        · exact .inl h1
        · exact .inr ⟨e, by simp, hb, .inl h1.symm⟩
        · exact .inr ⟨e, by simp, hb, .inr h1⟩
    · exact .inr ⟨e', List.mem_cons_of_mem _ h1, h2⟩
theorem ancs_good {os : List Oper} : ∀ {l : List Oper} {acc : List Nat}, os.drop acc.length = l → AncGood acc os → AncGood (ancs l acc) os
  | [], acc, hd, hg => hg
  | o :: l, acc, hd, hg => by
    simp only [ancs]
    have ho : os[acc.length]? = some o := by
      have : (os.drop acc.length)[0]? = some o := by rw [hd]; rfl
      rw [List.getElem?_drop] at this
      simpa using this
    have up : ∀ {x j q : Nat}, (acc.getD j 0).testBit q = true → ((acc ++ [x]).getD j 0).testBit q = true := by
      intro x j q h
      rcases Nat.lt_or_ge j acc.length with hj | hj
      · rw [List.getD_eq_getElem?_getD, List.getElem?_append_left hj, ← List.getD_eq_getElem?_getD]; exact h
      · rw [List.getD_eq_getElem?_getD, List.getElem?_eq_none hj] at h
        simp at h
    refine ancs_good (by simp only [List.length_append, List.length_singleton]; rw [← List.drop_drop, hd]; rfl) fun i hi q hq => ?_
    simp only [List.length_append, List.length_singleton] at hi
    rcases Nat.lt_or_ge i acc.length with hj | hj
    · rw [List.getD_eq_getElem?_getD, List.getElem?_append_left hj, ← List.getD_eq_getElem?_getD] at hq
      obtain ⟨o', h1, e, h2, h3, h4⟩ := hg i hj q hq
      exact ⟨o', h1, e, h2, h3, h4.imp id up⟩
    · have : i = acc.length := by omega
      subst this
      rw [List.getD_eq_getElem?_getD, List.getElem?_append_right (Nat.le_refl _)] at hq
      simp only [Nat.sub_self, List.getElem?_cons_zero, Option.getD_some] at hq
      rcases ancFold hq with h1 | ⟨e, h1, h2, h3⟩
      · simp at h1
      · exact ⟨o, ho, e, h1, h2, h3.imp id up⟩
end
end Tm
/- Regions that draw their order: the facts, by place in the translation's order. No statement of the seat is proved here. -/
namespace Tm
open Go
set_option linter.unusedVariables false
set_option linter.unusedSimpArgs false
/-- The stores at k' and k come in either order. -/
def Pr (ops : Array Oper) (op : Nat → Oper) (co : Nat → COper) (cl : Nat → Cl) (an : Nat → Nat → Bool) (k' k : Nat) : Prop :=
  an k k' = false ∧ ∃ X, (co k).dis = some X ∧ (∃ sz V, (co k').op = .store sz X V) ∧ (∃ sz Y V, (co k).op = .store sz Y V) ∧ (∀ r, r < k → r ≠ k' → cl r = .p ∨ cl r = .r ∨ (an k r = true ∧ an k' r = true)) ∧ ∀ r, r < k → an k' r = true ∨ ∀ t ∈ looks ops (op k'), (op r).dst ≠ some t
def Calm (ops : Array Oper) (op : Nat → Oper) (k' k : Nat) : Prop :=
  (∃ d, (op k').dst = some d ∧ ∀ x, k' < x → x < k → (op x).dst ≠ some d) ∧ ∀ t ∈ looks ops (op k'), ∀ x, k' ≤ x → x ≤ k → (op x).dst ≠ some t
structure Run (P : Program) (G : Nat → Option AV) (pu : Nat → Bool) (C : CallF) (n0 : Nat) (ops : Array Oper) (N m : Nat) (ix : Nat → Nat) (op : Nat → Oper) (co : Nat → COper) (cl : Nat → Cl) (an : Nat → Nat → Bool) (S : Nat → St) : Prop where
  at_ : ∀ k, k < m → ops[ix k]? = some (op k)
  cov : ∀ i, i < ops.size → ∃ k, k < m ∧ ix k = i
  inj : ∀ k k', k' < k → k < m → ix k' ≠ ix k
  comp : ∀ k, k < m → ∃ c0, compOper P G N ops (cl k == .c) (op k) = some c0 ∧ c0.op = (co k).op ∧ c0.guard = (co k).guard ∧ c0.dst = (co k).dst
  ts : ∀ k, k < m → ∀ t ∈ (co k).op.ts, t ∈ looks ops (op k)
  cls : ∀ k, k < m → clOK pu (cl k) (co k).op = true
  mks : ∀ k, k < m → mkOK (op k).op (co k).op = true
  step : ∀ k, k < m → Stp C n0 (S k) (ix k) (co k) (S (k + 1))
  topo : ∀ k, k < m → ∀ e ∈ (op k).after.toList, Region.binds .any e = true → ∃ k', k' < k ∧ ix k' = e.on
  anc : ∀ k k', k < m → k' < m → an k k' = true → ∃ k'', k'' < k ∧ (∃ e ∈ (op k).after.toList, Region.binds .any e = true ∧ e.on = ix k'') ∧ (k'' = k' ∨ an k'' k' = true)
  pair : ∀ k' k, k' < k → k < m → an k k' = true ∨ (freeTmp ops (op k') (op k) = true ∧ ∃ sk : Bool, (sk = true → Pr ops op co cl an k' k) ∧ (eitherWay (cl k') (cl k) (isMk (op k').op) sk = some false ∨
    (eitherWay (cl k') (cl k) (isMk (op k').op) sk = some true ∧ Calm ops op k' k ∧ (ix k', (co k').dst, (co k').guard, (co k').op) ∈ (co k).chk)))
theorem take_split {α : Type} {c : List α} {k k' : Nat} {x : α} (hk : k' < k) (hx : c[k']? = some x) : (c.take k).reverse = ((c.take k).drop (k' + 1)).reverse ++ x :: (c.take k').reverse := by
  have hlt : k' < (c.take k).length := by
    rw [List.length_take]
    have := (List.getElem?_eq_some_iff.1 hx).1
    omega
  have h1 : (c.take k) = (c.take k).take k' ++ x :: (c.take k).drop (k' + 1) := by
    conv => lhs; rw [← List.take_append_drop k' (c.take k)]
    rw [List.drop_eq_getElem_cons hlt]
    congr 2
    rw [List.getElem_take]
    have := List.getElem?_eq_some_iff.1 hx
    exact this.2
  conv => lhs; rw [h1]
  rw [List.reverse_append, List.reverse_cons, List.append_assoc, List.take_take, Nat.min_eq_left (by omega)]
  rfl
theorem take_mem {α : Type} {c : List α} {k : Nat} {x : α} (h : x ∈ (c.take k).reverse) : ∃ k', k' < k ∧ c[k']? = some x := by
  rw [List.mem_reverse] at h
  obtain ⟨i, hi⟩ := List.mem_iff_getElem?.1 h
  rw [List.getElem?_take] at hi
  split at hi
  · rename_i hlt; exact ⟨i, hlt, hi⟩
  · cases hi
theorem mem_take {α : Type} {c : List α} {k k' : Nat} {x : α} (hk : k' < k) (h : c[k']? = some x) : x ∈ (c.take k).reverse := by
  rw [List.mem_reverse]
  refine List.mem_iff_getElem?.2 ⟨k', ?_⟩
  rw [List.getElem?_take, if_pos hk]; exact h
theorem mem_between {α : Type} {c : List α} {k k' y : Nat} {x : α} (h1 : k' < y) (h2 : y < k) (h : c[y]? = some x) : x ∈ ((c.take k).drop (k' + 1)).reverse := by
  rw [List.mem_reverse]
  refine List.mem_iff_getElem?.2 ⟨y - (k' + 1), ?_⟩
  rw [List.getElem?_drop, List.getElem?_take, show k' + 1 + (y - (k' + 1)) = y by omega, if_pos h2]; exact h
section
variable {P : Program} {G : Nat → Option AV} {pu : Nat → Bool} {C : CallF} {n0 N : Nat} {ops : Array Oper}
theorem comp_store {frz : Bool} {s : TypeId} {x v : Operand} {c : COp} (h : compOp P G frz (.store s x v) = some c) : ∃ n X V, opd G x = some X ∧ c = .store n X V := by
  simp only [compOp] at h
  split at h
  · rename_i n a b h1 h2 h3
    simp only [Option.some.injEq] at h
    exact ⟨n, a, b, h2, h.symm⟩
  · cases h
theorem run_of {cl0 : List (Nat × COper)} {s s' : St} (hcl : compReg P G pu N ops true = some cl0) (hev : evOps C n0 cl0 s = some s') :
    ∃ m ix op co cl an S, Run P G pu C n0 ops N m ix op co cl an S ∧ S 0 = s ∧ S m = s' := by
  simp only [compReg, bif_none, List.all_eq_true, List.any_eq_true, beq_iff_eq, List.mem_range] at hcl
  obtain ⟨hall, hd⟩ := hcl
  obtain ⟨hlen, hget⟩ := drawnOps_get hd
  obtain ⟨S, hS0, hSm, hSs⟩ := evOps_states hev
  generalize hanc : ancs ops.toList [] = anc at *
  generalize hz : (ops.toList.zipIdx.map fun (o, i) => (i, o)) = z at *
  generalize hcs : classes pu anc z = cs at *
  generalize hcc : canon cs anc z ops.size 0 = c at *
  have hgood : AncGood anc ops.toList := hanc ▸ ancs_good (by simp) (fun i hi => by simp at hi)
  let ix : Nat → Nat := fun k => (c.getD k default).1
  let op : Nat → Oper := fun k => (c.getD k default).2
  let co : Nat → COper := fun k => (cl0.getD k default).2
  have hc : ∀ k, k < c.length → c[k]? = some (ix k, op k) := fun k hk => by
    simp only [ix, op, List.getD_eq_getElem?_getD, List.getElem?_eq_getElem hk, Option.getD_some]
  have he : ∀ k, k < c.length → cl0[k]? = some (ix k, co k) ∧ Ent P G pu cs N ops anc (c.take k).reverse (ix k) (op k) (co k) := fun k hk => by
    obtain ⟨co', h1, h2⟩ := hget k _ _ (hc k hk)
    have : co k = co' := by simp only [co, List.getD_eq_getElem?_getD, h1, Option.getD_some]
    rw [this]
    exact ⟨h1, by simpa using h2⟩
  have hat : ∀ k, k < c.length → ops[ix k]? = some (op k) := fun k hk => by
    have : (ix k, op k) ∈ c := List.mem_iff_getElem?.2 ⟨k, hc k hk⟩
    rw [← hcc] at this
    have := canon_mem this
    rw [← hz] at this
    exact zip_mem this
  have hinj : ∀ k k', k' < k → k < c.length → ix k' ≠ ix k := fun k k' h1 h2 =>
    (he k h2).2.new (ix k') (op k') (mem_take h1 (hc k' (by omega)))
  have hinj2 : ∀ k k', k < c.length → k' < c.length → ix k = ix k' → k = k' := fun k k' h1 h2 h3 => by
    rcases Nat.lt_trichotomy k k' with h | h | h
    · exact absurd h3 (hinj k' k h h2)
    · exact h
    · exact absurd h3.symm (hinj k k' h h1)
  have htopo : ∀ k, k < c.length → ∀ e ∈ (op k).after.toList, Region.binds .any e = true → ∃ k', k' < k ∧ ix k' = e.on := fun k hk e hem hb => by
    obtain ⟨oj, h1⟩ := (he k hk).2.edge e hem hb
    obtain ⟨k', h2, h3⟩ := take_mem h1
    rw [hc k' (by omega)] at h3
    simp only [Option.some.injEq, Prod.mk.injEq] at h3
    exact ⟨k', h2, h3.1⟩
  refine ⟨c.length, ix, op, co, fun k => cs.getD (ix k) .p, fun k k' => (anc.getD (ix k) 0).testBit (ix k'), S, ?_, hS0, by rw [← hlen]; exact hSm⟩
  refine ⟨hat, fun i hi => ?_, hinj, fun k hk => (he k hk).2.comp, fun k hk => (he k hk).2.ts, fun k hk => (he k hk).2.cls, fun k hk => (he k hk).2.mks, fun k hk => hSs k _ _ (he k hk).1, htopo, fun k k' hk hk' ha => ?_, fun k' k h1 h2 => ?_⟩
  · obtain ⟨⟨j, o⟩, h1, h2⟩ := hall i hi
    obtain ⟨k, hk⟩ := List.mem_iff_getElem?.1 h1
    have hlt := (List.getElem?_eq_some_iff.1 hk).1
    refine ⟨k, hlt, ?_⟩
    rw [hc k hlt] at hk
    simp only [Option.some.injEq, Prod.mk.injEq] at hk
    rw [hk.1]; exact h2
  · have hlt : ix k < anc.length := by
      rcases Nat.lt_or_ge (ix k) anc.length with h | h
      · exact h
      · simp only [List.getD_eq_getElem?_getD, List.getElem?_eq_none h] at ha
        simp at ha
    obtain ⟨o, h1, e, h2, h3, h4⟩ := hgood (ix k) hlt (ix k') ha
    have h5 := hat k hk
    rw [← Array.getElem?_toList, h1] at h5
    simp only [Option.some.injEq] at h5
    subst h5
    obtain ⟨k'', h6, h7⟩ := htopo k hk e h2 h3
    refine ⟨k'', h6, ⟨e, h2, h3, h7.symm⟩, ?_⟩
    rcases h4 with h4 | h4
    · left
      exact hinj2 k'' k' (by omega) hk' (by rw [h7, h4])
    · right
      rw [← h7] at h4
      exact h4
  · obtain ⟨sk, q, hq, hql, hsk⟩ := (he k h2).2.chk
    have hk' : k' < c.length := by omega
    have hsp := take_split h1 (hc k' hk')
    rcases checks_get hq _ _ _ _ hsp with h3 | ⟨h3, h4⟩
    · exact .inl h3
    · refine .inr ⟨h3, (sk == some (ix k')), fun hs => ?_, ?_⟩
      · simp only [beq_iff_eq] at hs
        rcases hsk with h5 | ⟨y, x, X, h5, h6, h7, h8⟩
        · rw [h5] at hs; cases hs
        · rw [h5] at hs
          simp only [Option.some.injEq] at hs
          subst hs
          obtain ⟨oq, sz, v, h9, h10, h11, h12, h13⟩ := pairOf_get h6
          obtain ⟨k2, h14, h15⟩ := take_mem h9
          rw [hc k2 (by omega)] at h15
          simp only [Option.some.injEq, Prod.mk.injEq] at h15
          have : k2 = k' := hinj2 k2 k' (by omega) hk' h15.1
          subst this
          have hoq : op k2 = oq := h15.2
          refine ⟨h11, X, h8, ?_, ?_, fun r hr hne => ?_, fun r hr => ?_⟩
          · obtain ⟨c0, e1, e2, _, _⟩ := (he k2 hk').2.comp
            obtain ⟨f1, _⟩ := compOper_spec e1
            rw [hoq, h12] at f1
            obtain ⟨n, X', V, g1, g2⟩ := comp_store f1
            rw [h7] at g1
            cases g1
            exact ⟨n, V, by rw [← e2, g2]⟩
          · obtain ⟨c0, e1, e2, _, _⟩ := (he k h2).2.comp
            obtain ⟨f1, _⟩ := compOper_spec e1
            cases hop : (op k).op with
            | store s a b =>
              rw [hop] at f1
              obtain ⟨n, X', V, g1, g2⟩ := comp_store f1
              exact ⟨n, X', V, by rw [← e2, g2]⟩
            | _ => rw [hop] at h10; simp [isSt] at h10
          · rcases (h13 (ix r) (op r) (mem_take hr (hc r (by omega)))).1 with h16 | h16 | h16 | h16
            · exact absurd (hinj2 r k2 (by omega) hk' h16) hne
            · exact .inl h16
            · exact .inr (.inl h16)
            · exact .inr (.inr h16)
          · rw [← hoq] at h13
            exact (h13 (ix r) (op r) (mem_take hr (hc r (by omega)))).2
      · rcases h4 with h4 | ⟨h4, h5, h6⟩
        · exact .inl h4
        · refine .inr ⟨h4, ?_, ?_⟩
          · simp only [calm, Bool.and_eq_true, List.all_eq_true, Bool.not_eq_true', beq_eq_false_iff_ne] at h5
            obtain ⟨h7, h8⟩ := h5
            have wr : ∀ t x, k' < x → x < k → (op x).dst = some t → t ∈ wrOf ((c.take k).drop (k' + 1)).reverse [] := fun t x g1 g2 g3 =>
              wrOf_mem (.inr ⟨ix x, op x, mem_between g1 g2 (hc x (by omega)), g3⟩)
            refine ⟨?_, fun t ht x g1 g2 g3 => ?_⟩
            · split at h7
              · rename_i d hdd
                refine ⟨d, hdd, fun x g1 g2 g3 => ?_⟩
                have := wr d x g1 g2 g3
                simp only [Bool.not_eq_true', List.contains_eq_mem, decide_eq_false_iff_not] at h7
                exact h7 this
              · cases h7
            · obtain ⟨⟨h9, h10⟩, h11⟩ := h8 t ht
              rcases Nat.lt_or_ge x k with g4 | g4
              · rcases Nat.eq_or_lt_of_le g1 with g1 | g1
                · subst g1
                  exact absurd g3 h11
                have := wr t x g1 g4 g3
                simp only [List.contains_eq_mem, decide_eq_false_iff_not] at h9
                exact h9 this
              · have : x = k := by omega
                subst this
                exact h10 g3
          · obtain ⟨o, c1, e1, e2, e3⟩ := chkOf_get hql _ h6
            rw [hat k' hk'] at e1
            cases e1
            obtain ⟨c0, f1, f2, f3, f4⟩ := (he k' hk').2.comp
            have hne : (cs.getD (ix k') .p == Cl.c) = false := by
              revert h4
              cases cs.getD (ix k') .p <;> cases cs.getD (ix k) .p <;> simp [eitherWay] <;> decide
            rw [hne, e2] at f1
            cases f1
            rw [← f2, ← f3, ← f4]
            exact e3
end
end Tm
