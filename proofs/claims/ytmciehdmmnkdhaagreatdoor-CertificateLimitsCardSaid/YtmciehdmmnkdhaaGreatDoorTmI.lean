/- The abstract machine on trees, part I. No statement of the seat is proved here. -/
import Derived.RangeFuncLeaves
import Derived.RangeFuncRecord
import Derived.OrdersIn
import Derived.Test.YtmciehdmmnkdhaaGreatDoorTmH
set_option linter.unusedVariables false
set_option linter.unusedSimpArgs false
set_option linter.constructorNameAsVariable false
set_option linter.unusedSectionVars false
set_option linter.deprecated false
set_option linter.unnecessarySimpa false
/- slices.Clone: by hand the test for nil, the rest by the machine. No statement of the seat is proved here. -/
namespace Tm
open Go
set_option linter.unusedVariables false
set_option linter.unusedSimpArgs false
section
variable {P : Program} {G : Nat → Option AV} {F : Nat → Option CFun}
/-- The machine without functions: for code that calls nothing. -/
theorem bare_ok (hm : P.follows .mixedOrders = true) (k : Nat) : CodeOK P G (fun _ => false) (fun _ => none) k :=
  (all_ok hm (fun g h => by cases h) (fun g cf h => by cases h) k).1
theorem eq_nil {w : World} {t : TypeId} {el : TypeId} {A : Option Addr} {n c : Nat} (hu : P.underlying t = some (.slice el)) : (binOp .eql t (.slice A n c) (.slice none 0 0)).run P w = .ok (.bool A.isNone) w := by
  obtain ⟨d, hd⟩ := equal_eq
  simp only [binOp]
  rw [hd]
  cases A <;> (simp only [Op.equalIn, Sem.run_bind, run_underlying hu, Result.andThen_ok]; rfl)
theorem app_congr {e e' : Env} {x y x' y' : Opd} {h : Heap} {k sz : Nat} (hx : x.ev e = x'.ev e') (hy : y.ev e = y'.ev e') : evOp (.app sz x y) e h k = evOp (.app sz x' y') e' h k := by
  simp only [evOp, hx, hy]
theorem wp_val {o : Oper} {a : Act} {w : World} {u : Value} {all : Array Oper} {i : Nat} {l : List Nat} {Q : Exit → Act → World → Prop} (ho : all[i]? = some o) (hg : o.guard = none) (hv : (execOp a.eval o).run P w = .ok (.value u) w) (hn : wpOps P all Q l (a.put o.dst u) w) : wpOps P all Q (i :: l) a w := by
  simp only [wpOps, ho, Region.wanted, hg, if_true]
  left
  unfold Oper.wp
  rw [hv]; exact hn

theorem app_arg {I : Inj} {M : Mem} {e : Env} {y : Opd} {h h' : Heap} {k sz : Nat} {v : AV} {u : Value} (hz : (sz == 1) = false) (hv : evOp (.app sz (.c (.zl [])) y) e h k = some (v, h')) (hr : RV I M (y.ev e) u) : ∃ A n c, u = .slice A n c ∧ (A = none → v = .zl [] ∧ h' = h) := by
  have nil : ∀ {ys : List D}, ys = [] → appA sz (.zl []) ys h k = some (v, h') → v = .zl [] ∧ h' = h := by
    rintro ys rfl ha
    simp only [appA, Option.some.injEq, Prod.mk.injEq] at ha
    exact ⟨ha.1.symm, ha.2.symm⟩
  have hc0 : (Opd.c (AV.zl [])).ev e = .zl [] := rfl
  simp only [evOp, hc0] at hv
  cases hy : y.ev e with
  | d x =>
    rw [hy] at hv hr
    cases x with
    | s b => simp [hz] at hv
    | se =>
      simp only [elems, headSz, cond_true] at hv
      have hc := hr.cellOf rfl
      simp only [RVc, RDc] at hc
      obtain ⟨A, c, e1⟩ := hc
      simp only [List.cons.injEq, and_true] at e1
      exact ⟨A, 0, c, e1, fun _ => nil rfl hv⟩
    | sl l =>
      simp only [elems] at hv
      have hc := hr.cellOf rfl
      simp only [RVc, RDc] at hc
      obtain ⟨A, c, e1, _, _, h4⟩ := hc
      simp only [List.cons.injEq, and_true] at e1
      refine ⟨A, _, c, e1, fun hA => ?_⟩
      rw [bif_none] at hv
      refine nil ?_ hv.2
      cases l with
      | nil => rfl
      | cons z l => obtain ⟨b, o, s, h5, _⟩ := h4 (by simp); rw [hA] at h5; cases h5
    | _ => simp [elems] at hv
  | zl l =>
    rw [hy] at hv hr
    simp only [elems] at hv
    have hc := hr.cellOf rfl
    simp only [RVc] at hc
    obtain ⟨A, e1, h4⟩ := hc
    simp only [List.cons.injEq, and_true] at e1
    refine ⟨A, _, _, e1, fun hA => ?_⟩
    rw [bif_none] at hv
    refine nil ?_ hv.2
    cases l with
    | nil => rfl
    | cons z l => obtain ⟨b, o, s, h5, _⟩ := h4 (by simp); rw [hA] at h5; cases h5
  | bs l =>
    rw [hy] at hv hr
    simp only [elems] at hv
    have hc := hr.cellOf rfl
    simp only [RVc] at hc
    obtain ⟨A, c, e1, _, h4⟩ := hc
    simp only [List.cons.injEq, and_true] at e1
    refine ⟨A, _, c, e1, fun hA => ?_⟩
    rw [bif_none] at hv
    refine nil ?_ hv.2
    cases l with
    | nil => rfl
    | cons z l => obtain ⟨b, o, s, h5, _⟩ := h4 (by simp); rw [hA] at h5; cases h5
  | sl a lo n =>
    rw [hy] at hv hr
    have hc := hr.cellOf rfl
    simp only [RVc] at hc
    obtain ⟨q, A, hq, e1, h3, h4⟩ := hc
    simp only [List.cons.injEq, and_true] at e1
    refine ⟨A, _, _, e1, fun hA => ?_⟩
    have hn : n = 0 := by
      rcases h4 with h4 | h4
      · omega
      · rw [hA] at h4; cases h4
    subst hn
    simp only at hv
    split at hv
    · split at hv
      · rename_i ys hys
        rw [bif_none] at hv
        refine nil ?_ hv.2
        simp only [sub, bif_none, Option.some.injEq] at hys
        rw [← hys.2]; simp
      · cases hv
    · cases hv
  | _ => rw [hy] at hv; simp [elems] at hv
theorem eval_put {a : Act} {t : Nat} {v : Value} (h : t < a.tmps.size) : (a.put (some t) v).eval (.tmp t) = v := by simp [Act.eval, Act.put, h]
theorem eval_put_ne {a : Act} {t t' : Nat} {v : Value} (h : t ≠ t') : (a.put (some t) v).eval (.tmp t') = a.eval (.tmp t') := by simp [Act.eval, Act.put, Array.getElem?_setIfInBounds_ne h]
theorem eval_getD {a : Act} {t : Nat} : a.tmps.getD t undef = a.eval (.tmp t) := by simp [Act.eval, Array.getD_eq_getD_getElem?]
theorem res_one {fn : Func} {a : Act} {w : World} {t : Nat} (hr : fn.results.toList = [.tmp t]) : (results fn a.tmps).run P w = .ok (resTup [a.eval (.tmp t)]) w := by
  refine results_eq ?_
  rw [hr, List.mapM_cons]
  simp only [resF, List.mapM_nil, Sem.run_bind, Sem.run_pure, Result.andThen_ok, eval_getD]
theorem spec_clone {k g i0 i1 i2 sz N : Nat} {t ty : TypeId} {el : TypeId} {fn : Func} {o0 o1 o2 o3 : Oper} {Dc : Code} {zs : List D} {frz : Bool} (hm : P.follows .mixedOrders = true) (h1 : P.funcs[g]? = some fn) (h2 : (fn.name == "runtime.NumGoroutine") = false)
    (h3 : fn.body = some (.seq (.region i0 #[o0] false) (.seq (.seq (.region i1 #[o1, o2] false) (.cond (.tmp 4) (.seq (.region i2 #[o3] false) .ret) .skip)) Dc)))
    (hr : fn.results.toList = [.tmp 2]) (hN : 8 ≤ fn.ntmps) (hu : P.underlying t = some (.slice el))
    (e0 : o0.op = .assign (.const (.slice none 0 0))) (d0 : o0.dst = some 2) (g0 : o0.guard = none)
    (e1 : o1.op = .move (.tmp 0)) (d1 : o1.dst = some 3) (g1 : o1.guard = none)
    (e2 : o2.op = .binOp .eql t (.tmp 3) (.const (.slice none 0 0)) ty) (d2 : o2.dst = some 4) (g2 : o2.guard = none)
    (e3 : o3.op = .assign (.const (.slice none 0 0))) (d3 : o3.dst = some 2) (g3 : o3.guard = none)
    (hD : comp P G (fun _ => false) fn.ntmps Dc = .seq (.reg 4 [(0, { dst := some 5, guard := none, op := .bslice true zs 0 [] }), (1, { dst := some 6, guard := none, op := .mv (.t 0) }), (2, { dst := some 7, guard := none, op := .app sz (.t 5) (.t 6) }), (3, { dst := some 2, guard := none, op := .mv (.t 7) })]) .ret) (hz : (sz == 1) = false) :
    RunOK P G F k g ⟨[(.t 1, none)], .reg 4 [(2, { dst := some 1, guard := none, op := .app sz (.c (.zl [])) (.t 0) })], false, false, false, false⟩ := by
  refine ⟨⟨fn, h1, h2, by rw [h3]; rfl⟩, fun args h n s l _ hev hl I M vs hG hH hfr hA => ?_⟩
  -- what the machine has done
  have hs : ∃ v h', evOp (.app sz (.c (.zl [])) (.t 0)) (initE 0 args .lf) h (n + 2) = some (v, h') ∧ s = ⟨(initE 0 args .lf).set 1 v, h', n + 4⟩ := by
    cases k with
    | zero => rcases hev with hev | hev <;> cases hev
    | succ k =>
      have : ev F (k + 1) (.reg 4 [(2, { dst := some 1, guard := none, op := .app sz (.c (.zl [])) (.t 0) })]) ⟨initE 0 args .lf, h, n⟩ = (match evOp (.app sz (.c (.zl [])) (.t 0)) (initE 0 args .lf) h (n + 2) with
        | some (v, h') => .nor ⟨(initE 0 args .lf).set 1 v, h', n + 4⟩
        | none => .bad) := by
        show step F (ev F k) _ _ = _
        simp only [step, evOps, wants, doOp]
        cases evOp (.app sz (.c (.zl [])) (.t 0)) (initE 0 args .lf) h (n + 2) with
        | none => rfl
        | some p => obtain ⟨v, h'⟩ := p; simp [fresh, apart, putE]
      simp only [this] at hev
      cases hh : evOp (.app sz (.c (.zl [])) (.t 0)) (initE 0 args .lf) h (n + 2) with
      | none => rw [hh] at hev; simp at hev
      | some p =>
        obtain ⟨v, h'⟩ := p
        rw [hh] at hev
        simp only [Out.nor.injEq] at hev
        rcases hev with hev | hev
        · exact ⟨v, h', rfl, hev.symm⟩
        · cases hev
  obtain ⟨v, h', hop, rfl⟩ := hs
  have hlv : l = [v] ∧ okV v = true := by
    simp only [resVs, resV, Opd.ev, T.get_set, if_true, Option.getD_some, bif_none, Option.some.injEq] at hl
    exact ⟨hl.2.symm, hl.1⟩
  obtain ⟨rfl, hok⟩ := hlv
  have ntu : ∀ r, v ≠ .tu r := by rintro r rfl; simp [okV] at hok
  -- the argument
  have hE := initE_rel (n := fn.ntmps - vs.toArray.size) hA
  have r0 := hE 0
  let a : Act := { tmps := vs.toArray ++ Array.replicate (fn.ntmps - vs.toArray.size) undef, defers := [] }
  have hsz : 8 ≤ a.tmps.size := by simp only [a, Array.size_append, Array.size_replicate]; omega
  have hu0 : a.eval (.tmp 0) = a.tmps.getD 0 undef := by simp [Act.eval, Array.getD_eq_getD_getElem?]
  obtain ⟨A, ln, c, hA0, hnil⟩ := app_arg hz hop r0
  have hu0' : a.eval (.tmp 0) = .slice A ln c := hu0.trans hA0
  refine calls_of_wp h1 h3 ?_
  refine wp_seq (wp_region ?_)
  show wpOps P #[o0] _ [0] a M.w
  refine wp_val (o := o0) (u := .slice none 0 0) rfl g0 (by simp only [execOp, e0]; rfl) ?_
  rw [d0]
  show Code.wp P (.seq _ Dc) _ _ _
  refine wp_seq (wp_seq (wp_region ?_))
  show wpOps P #[o1, o2] _ [0, 1] _ M.w
  refine wp_val (o := o1) (u := .slice A ln c) rfl g1 (by simp only [execOp, e1, eval_put_ne (show 2 ≠ 0 by decide), hu0']; rfl) ?_
  rw [d1]
  refine wp_val (o := o2) (u := .bool A.isNone) rfl g2 ?_ ?_
  · have hx : ((a.put (some 2) (.slice none 0 0)).put (some 3) (.slice A ln c)).eval (.tmp 3) = .slice A ln c := eval_put (by rw [put_size]; omega)
    have hy : ((a.put (some 2) (.slice none 0 0)).put (some 3) (.slice A ln c)).eval (.const (.slice none 0 0)) = .slice none 0 0 := rfl
    have hg : (eqGuard .eql t (.tmp 3) (.const (.slice none 0 0)) (.slice A ln c) (.slice none 0 0)).run P M.w = .ok () M.w := rfl
    simp only [execOp, e2, hx, hy, Sem.run_bind, hg, eq_nil hu, Result.andThen_ok]
    rfl
  rw [d2]
  show Code.wp P (.cond _ _ _) _ _ _
  cases A with
  | none =>
    refine wp_cond_true (eval_put (by rw [put_size, put_size]; omega)) ?_
    refine wp_seq (wp_region ?_)
    show wpOps P #[o3] _ [0] _ M.w
    refine wp_val (o := o3) (u := .slice none 0 0) rfl g3 (by simp only [execOp, e3]; rfl) ?_
    rw [d3]
    show Code.wp P .ret _ _ _
    refine wp_ret ?_
    obtain ⟨rfl, rfl⟩ := hnil rfl
    refine ⟨rfl, _, res_one hr, [_], M, I, rfl, rfl, Ext.refl M, Le.refl I, fun x hx => .inl hx, by show n ≤ n + 4; omega, hH, _, [], rfl, ?_, rfl⟩
    rw [eval_put (by simp only [put_size]; omega)]
    refine RV1.of rfl ?_
    simp only [RVc]
    exact ⟨none, rfl, fun h => absurd rfl h⟩
  | some A =>
    refine wp_cond_false (eval_put (by rw [put_size, put_size]; omega)) ?_
    refine wp_skip ?_
    show Code.wp P Dc _ _ _
    generalize ha4 : ((a.put (some 2) (.slice none 0 0)).put (some 3) (.slice (some A) ln c)).put (some 4) (.bool (some A).isNone) = a4
    have h40 : a4.eval (.tmp 0) = a.eval (.tmp 0) := by
      rw [← ha4, eval_put_ne (by decide), eval_put_ne (by decide), eval_put_ne (by decide)]
    have s4 : a4.tmps.size = a.tmps.size := by rw [← ha4, put_size, put_size, put_size]
    let x := ((initE 0 args .lf).get 0).getD .u
    let e1 : Env := T.set .lf 0 x
    have hE4 : ER I M e1 a4.tmps := fun t => by
      simp only [e1, T.get_set, T.get_lf]
      by_cases ht : t = 0
      · subst ht
        rw [if_pos rfl, Option.getD_some, eval_getD, h40, hu0]
        exact r0
      · rw [if_neg ht]; exact RV.undef
    have hrun : ev (fun _ => none) 2 (.seq (.reg 4 [(0, { dst := some 5, guard := none, op := .bslice true zs 0 [] }), (1, { dst := some 6, guard := none, op := .mv (.t 0) }), (2, { dst := some 7, guard := none, op := .app sz (.t 5) (.t 6) }), (3, { dst := some 2, guard := none, op := .mv (.t 7) })]) .ret) ⟨e1, h, n⟩ = .rt ⟨(((e1.set 5 (.zl [])).set 6 x).set 7 v).set 2 v, h', n + 4⟩ := by
      have hb : evOp (.bslice true zs 0 []) e1 h (n + 0) = some (.zl [], h) := rfl
      have hm1 : evOp (.mv (.t 0)) (e1.set 5 (.zl [])) h (n + 1) = some (x, h) := by
        simp only [evOp, Opd.ev, T.get_set, e1]; rfl
      have happ : evOp (.app sz (.t 5) (.t 6)) ((e1.set 5 (.zl [])).set 6 x) h (n + 2) = some (v, h') := by
        rw [← hop]
        refine app_congr ?_ ?_
        · simp [Opd.ev, T.get_set]
        · simp [Opd.ev, T.get_set, x]
      have hm2 : evOp (.mv (.t 7)) (((e1.set 5 (.zl [])).set 6 x).set 7 v) h' (n + 3) = some (v, h') := by
        simp [evOp, Opd.ev, T.get_set]
      show step _ _ _ _ = _
      simp only [step]
      show (match (match evOps (callA (fun _ => none) (ev (fun _ => none) 0)) n _ ⟨e1, h, n + 4⟩ with | some s => Out.nor s | none => Out.bad) with | .nor s => step _ _ .ret s | r => r) = _
      simp only [evOps, wants, doOp, hb, putE, hm1, happ, hm2, fresh, apart, List.all_nil, Bool.and_self, step]
    have hcode := bare_ok (P := P) (G := G) hm 2 fn.ntmps _ ⟨e1, h, n⟩ (by rw [hrun]; simp) Dc hD I M a4 ⟨hE4, hH, hG⟩ (by rw [s4]; simp [a]; omega) hfr
    refine wp_mono hcode fun ex a' w' hq => ?_
    rw [hrun] at hq
    cases ex with
    | ret =>
      obtain ⟨I', M', hR⟩ := hq
      have hw := hR.w
      subst hw
      refine ⟨hR.df.trans (by rw [← ha4, put_defers', put_defers', put_defers']), _, res_one hr, [_], M', I', rfl, rfl, hR.ext, hR.le, hR.new, hR.n, hR.sr.rh, _, [], rfl, ?_, rfl⟩
      have h2 := hR.sr.er 2
      simp only [T.get_set, if_true, Option.getD_some, eval_getD] at h2
      exact h2.one ntu
    | _ => exact absurd hq (by simp [OutOK])
end
end Tm
/- A range over a function: what a round's frame turns, records, machines run anew over part of their names. No statement of the seat is proved here. -/
namespace Tm
open Go
set_option linter.unusedVariables false
set_option linter.unusedSimpArgs false
/-! ### In a round's frame -/
section
variable {P : Program} {Q : Exit → Act → World → Prop} {n r : Nat} {ops : Array Oper}
theorem upon_round {o : Oper} {a : Act} {w : World} {K : Act → World → Prop} {ro : Option Nat} (hd : ∀ c, o.op ≠ .defer c) (h : o.wp P a w K Q) : o.wpIn { Fence.wide with round := ro } n P a w K Q := by
  refine ⟨fun _ _ => trivial, ?_⟩
  rw [Oper.semAt_eq _ _ _ hd]
  unfold Oper.wp at h
  generalize (execOp a.eval o).run P w = res at h
  cases res with
  | ok x w' =>
    cases x with
    | enter f args => exact ⟨fun hs => by simp [Fence.wide] at hs, (callsIn_wide.2 h : CallsIn Fence.wide (n - 1) P f args w' _)⟩
    | row row args =>
      refine ⟨fun hs => by simp [Fence.wide] at hs, fun c cs _ => ?_⟩
      obtain ⟨v, w'', h1, h2⟩ := h c cs
      exact ⟨v, w'', h1, stepsIn_wide.2 h2⟩
    | _ => first | exact h | exact h.elim
  | halt x w' => cases x <;> first | exact h | exact h.elim
def noDef (o : Oper) : Bool := match o.op with | .defer _ => false | _ => true
theorem noDef_ne {o : Oper} (h : noDef o = true) : ∀ c, o.op ≠ .defer c := fun c e => by simp [noDef, e] at h
theorem wpOps_round {ro : Option Nat} (hL : ¬ LetsOut Q) (hd : ∀ (i : Nat) o, ops[i]? = some o → noDef o = true) : ∀ (l : List Nat) (a : Act) (w : World), wpOps P ops Q l a w → wpOpsIn { Fence.wide with round := ro } n P ops Q l a w
  | [], a, w, h => h
  | i :: l, a, w, h => by
    simp only [wpOps, wpOpsIn] at h ⊢
    cases ho : ops[i]? with
    | none => simp only [ho] at h ⊢; exact wpOps_round hL hd l a w h
    | some o =>
      simp only [ho] at h ⊢
      split at h
      · rename_i hw
        rw [if_pos hw]
        rcases h with h | h
        · exact Oper.wpIn_mono (fun a w h => wpOps_round hL hd l a w h) (upon_round (noDef_ne (hd i o ho)) h)
        · exact absurd h.2 hL
      · rename_i hw
        rw [if_neg hw]
        exact ⟨fun _ _ => trivial, wpOps_round hL hd l _ w h⟩
theorem wpAny_round {ro : Option Nat} {md : Region.Mode} (hL : ¬ LetsOut Q) (hd : ∀ (i : Nat) o, ops[i]? = some o → noDef o = true) : ∀ (f : Nat) (listed : Array Bool) (a : Act) (w : World), wpAny P md ops Q f listed a w → wpAnyIn { Fence.wide with round := ro } n P md ops Q f listed a w
  | 0, listed, a, w, h => h
  | f + 1, listed, a, w, h => by
    refine ⟨h.1, fun i hi => ?_⟩
    have := h.2 i hi
    unfold wpOp at this
    unfold wpOpIn
    cases ho : ops[i]? with
    | none => simp only [ho] at this ⊢; exact wpAny_round hL hd f _ a w this
    | some o =>
      simp only [ho] at this ⊢
      split at this
      · rename_i hw
        rw [if_pos hw]
        rcases this with h1 | h1
        · exact Oper.wpIn_mono (fun a w h => wpAny_round hL hd f _ a w h) (upon_round (noDef_ne (hd i o ho)) h1)
        · exact absurd h1.2 hL
      · rename_i hw
        rw [if_neg hw]
        exact ⟨fun _ _ => trivial, wpAny_round hL hd f _ _ w this⟩
end
/-! ### Records -/
section
variable {I : Inj} {M : Mem} {h : Heap}
def Mem.putO (M : Mem) (l : Nat) (o : Obj) : Mem := ⟨M.w.putObj l o, M.fz, M.lo⟩
theorem cellsOf_rec {w : World} {l : Nat} {o : Obj} (ho : w.heap[l]? = some o) (hr : isRec o = true) : cellsOf w l = [] := by
  unfold cellsOf
  rw [ho]
  cases o <;> first | rfl | (simp [isRec] at hr)
theorem putO_rel {l : Nat} {o o' : Obj} (hH : RH I M h) (ho : M.w.heap[l]? = some o) (hr : isRec o = true) (hr' : isRec o' = true) (hlo : M.lo ≤ l) : RH I (M.putO l o') h ∧
    (∀ b, b < M.lo → (M.putO l o').w.heap[b]? = M.w.heap[b]?) ∧ (∀ b, cellsOf (M.putO l o').w b = cellsOf M.w b) ∧ M.w.heap.size = (M.putO l o').w.heap.size := by
  have hl := (Array.getElem?_eq_some_iff.1 ho).1
  have hsame : ∀ b, b ≠ l → (M.putO l o').w.heap[b]? = M.w.heap[b]? := fun b hb => World.putObj_heap_other hb
  have hat : (M.putO l o').w.heap[l]? = some o' := World.putObj_heap_same hl
  have hc : ∀ b, cellsOf (M.putO l o').w b = cellsOf M.w b := fun b => by
    by_cases hb : b = l
    · subst hb; rw [cellsOf_rec hat hr', cellsOf_rec ho hr]
    · unfold cellsOf; rw [hsame b hb]
  refine ⟨?_, fun b hb => hsame b (by omega), hc, by simp [Mem.putO, World.putObj]⟩
  have hne : ∀ a ob q, h.get a = some ob → I a = some q → q.b ≠ l := by
    intro a ob q h1 h2 e
    have := (hH.ob a ob q h1 h2).2.2
    cases ob with
    | box l => simp only [RO] at this; obtain ⟨c, e1, h3, _⟩ := this; rw [e, ho] at h3; cases h3; simp [isRec] at hr
    | row sz l z => simp only [RO] at this; obtain ⟨_, _, c, e1, h3, _⟩ := this; rw [e, ho] at h3; cases h3; simp [isRec] at hr
    | map ks vs => simp only [RO] at this; obtain ⟨c, e1, h3, _⟩ := this; rw [e, ho] at h3; cases h3; simp [isRec] at hr
  have e0 : Ext0 M.w M.fz (M.putO l o').w M.fz := ⟨fun _ => Nat.le_refl _, fun b => by rw [hc]⟩
  constructor
  · exact fun b => by show M.fz b ≤ _; rw [hc]; exact hH.wf b
  · show M.lo ≤ (M.w.putObj l o').heap.size
    have := hH.lo; simp [World.putObj]; exact this
  · intro a ob q h1 h2
    obtain ⟨g1, g2, g3⟩ := hH.ob a ob q h1 h2
    refine ⟨g1, by show q.b < (M.w.putObj l o').heap.size; simp [World.putObj]; exact g2, ?_⟩
    have hq := hsame q.b (hne a ob q h1 h2)
    have hX : ExtW M (M.putO l o') := ⟨rfl, fun b hb => hsame b (by omega), fun _ => Nat.le_refl _, fun b => by rw [hc]⟩
    cases ob with
    | box l =>
      simp only [RO] at g3 ⊢
      obtain ⟨c, e1, h3, h4, h5, h6⟩ := g3
      exact ⟨c, e1, hq.trans h3, h4, h5.extW hX (Le.refl I), h6⟩
    | row sz l z =>
      simp only [RO] at g3 ⊢
      obtain ⟨k1, k2, c, e1, h3, h4, h5, h6, h7⟩ := g3
      exact ⟨k1, k2, c, e1, hq.trans h3, h4, h5, RRow.ext e0 _ _ _ _ rfl h6, h7⟩
    | map ks vs =>
      simp only [RO] at g3 ⊢
      obtain ⟨c, e1, h3, h4, h5, h6⟩ := g3
      exact ⟨c, e1, hq.trans h3, h4.ext e0, h5.extW hX (Le.refl I), h6⟩
  · exact hH.inj
  · exact hH.cp
end
/-! ### Operations one by one; the same machine over part of the names -/
section
variable {C : CallF} {n0 : Nat}
theorem evOps_one {i : Nat} {d : Option Nat} {c : COp} {l : List (Nat × COper)} {s s' : St} (h : evOps C n0 ((i, { dst := d, guard := none, op := c }) :: l) s = some s') :
    ∃ v h' n', doOp C c s (n0 + i) = some (v, h', n') ∧ fresh s.h (n0 + i) c = true ∧ evOps C n0 l ⟨putE s.e d v, h', n'⟩ = some s' := by
  simp only [evOps, wants] at h
  split at h
  · rename_i v h' n' ho
    simp only [List.all_nil, Bool.and_true, apart] at h
    split at h
    · rename_i hf
      exact ⟨v, h', n', ho, hf, h⟩
    · cases h
  · cases h
theorem evOps_mk {i : Nat} {d : Option Nat} {c : COp} {l : List (Nat × COper)} {s : St} {v : AV} {h' : Heap} {n' : Nat} (ho : doOp C c s (n0 + i) = some (v, h', n')) (hf : fresh s.h (n0 + i) c = true) :
    evOps C n0 ((i, { dst := d, guard := none, op := c }) :: l) s = evOps C n0 l ⟨putE s.e d v, h', n'⟩ := by
  simp [evOps, wants, ho, hf, apart]
def dl : Option Nat → List Nat
  | some d => [d]
  | none => []
/-- What a row of operations looks at lies in A, or is made by it; no guards, no checks. -/
def inA (A : List Nat) : List (Nat × COper) → Bool
  | [] => true
  | (_, o) :: l => o.guard.isNone && o.chk.isEmpty && o.dis.isNone && o.op.ts.all (fun t => A.contains t) && inA (dl o.dst ++ A) l
def dsts : List (Nat × COper) → List Nat
  | [] => []
  | (_, o) :: l => dl o.dst ++ dsts l
theorem evOps_part : ∀ {l : List (Nat × COper)} {A : List Nat} {e e' : Env} {h : Heap} {n : Nat} {s' : St}, inA A l = true → (∀ t ∈ A, e.get t = e'.get t) → evOps C n0 l ⟨e, h, n⟩ = some s' →
    ∃ e2, evOps C n0 l ⟨e', h, n⟩ = some ⟨e2, s'.h, s'.n⟩ ∧ (∀ t, t ∈ A ∨ t ∈ dsts l → s'.e.get t = e2.get t) ∧ (∀ t, t ∉ dsts l → s'.e.get t = e.get t ∧ e2.get t = e'.get t)
  | [], A, e, e', h, n, s', _, he, hev => by
    simp only [evOps, Option.some.injEq] at hev
    subst hev
    exact ⟨e', rfl, fun t ht => by rcases ht with ht | ht; exact he t ht; simp [dsts] at ht, fun t _ => ⟨rfl, rfl⟩⟩
  | (i, o) :: l, A, e, e', h, n, s', hA, he, hev => by
    simp only [inA, Bool.and_eq_true, Option.isNone_iff_eq_none, List.isEmpty_iff, List.all_eq_true, List.contains_iff_mem] at hA
    obtain ⟨⟨⟨⟨a1, a2⟩, a3⟩, a4⟩, a5⟩ := hA
    obtain ⟨d, g, c, ck, di⟩ := o
    simp only at a1 a2 a3 a4 a5
    subst a1 a2 a3
    obtain ⟨v, h', n', ho, hf, hev⟩ := evOps_one hev
    have ho' : doOp C c ⟨e', h, n⟩ (n0 + i) = some (v, h', n') := by rw [← ho]; exact (doOp_congr fun t ht => he t (a4 t ht)).symm
    have he1 : ∀ t ∈ dl d ++ A, (putE e d v).get t = (putE e' d v).get t := by
      intro t ht
      cases d with
      | none => exact he t (by simpa [dl] using ht)
      | some d =>
        simp only [putE, T.get_set]
        by_cases htd : t = d
        · simp [htd]
        · rw [if_neg htd, if_neg htd]; exact he t (by simpa [htd, dl] using ht)
    obtain ⟨e2, r1, r2, r3⟩ := evOps_part a5 he1 hev
    refine ⟨e2, by rw [evOps_mk ho' hf]; exact r1, fun t ht => r2 t ?_, fun t ht => ?_⟩
    · rcases ht with ht | ht
      · exact .inl (List.mem_append_right _ ht)
      · simp only [dsts, List.mem_append] at ht
        exact ht.imp (fun h => List.mem_append_left _ h) id
    · simp only [dsts, List.mem_append, not_or] at ht
      obtain ⟨k1, k2⟩ := r3 t ht.2
      rw [k1, k2]
      cases d with
      | none => exact ⟨rfl, rfl⟩
      | some d => simp only [putE, T.get_set]; rw [if_neg (by simpa [dl] using ht.1), if_neg (by simpa [dl] using ht.1)]; exact ⟨rfl, rfl⟩
end
section
variable {F : Nat → Option CFun} {k : Nat}
theorem ev_reg {len : Nat} {ops : List (Nat × COper)} {s : St} (h : ev F k (.reg len ops) s ≠ .bad) : ∃ j s', k = j + 1 ∧ evOps (callA F (ev F j)) s.n ops ⟨s.e, s.h, s.n + len⟩ = some s' ∧ ev F k (.reg len ops) s = .nor s' := by
  cases k with
  | zero => exact absurd rfl h
  | succ j =>
    have hev : ev F (j + 1) (.reg len ops) s = (match evOps (callA F (ev F j)) s.n ops ⟨s.e, s.h, s.n + len⟩ with | some s => .nor s | none => .bad) := rfl
    rw [hev] at h ⊢
    cases ho : evOps (callA F (ev F j)) s.n ops ⟨s.e, s.h, s.n + len⟩ with
    | none => rw [ho] at h; exact absurd rfl h
    | some s' => exact ⟨j, s', rfl, ho, rfl⟩
theorem ev_seq {a b : CCode} {s : St} (h : ev F k (.seq a b) s ≠ .bad) : ∃ j, k = j + 1 ∧ ev F j a s ≠ .bad ∧ ((∃ s1, ev F j a s = .nor s1 ∧ ev F k (.seq a b) s = ev F j b s1) ∨ (∀ s1, ev F j a s ≠ .nor s1) ∧ ev F k (.seq a b) s = ev F j a s) := by
  cases k with
  | zero => exact absurd rfl h
  | succ j =>
    have hev : ev F (j + 1) (.seq a b) s = (match ev F j a s with | .nor s => ev F j b s | r => r) := rfl
    rw [hev] at h ⊢
    cases ho : ev F j a s with
    | bad => rw [ho] at h; exact absurd rfl h
    | nor s1 => exact ⟨j, rfl, by rw [ho]; simp, .inl ⟨s1, ho, rfl⟩⟩
    | ex i s1 => exact ⟨j, rfl, by rw [ho]; simp, .inr ⟨by rw [ho]; simp, by rw [ho]⟩⟩
    | rt s1 => exact ⟨j, rfl, by rw [ho]; simp, .inr ⟨by rw [ho]; simp, by rw [ho]⟩⟩
end
end Tm
/- dnf.BranchType, the ground: steps in a wide fence, a loop by fuel, the machine's own loop. No statement of the seat is proved here. -/
namespace Tm
open Go
set_option linter.unusedVariables false
set_option linter.unusedSimpArgs false
section
variable {P : Program} {G : Nat → Option AV} {I : Inj} {M : Mem} {a : Act} {n : Nat} {all : Array Oper} {Q : Exit → Act → World → Prop}
/-- Operation i of the row is written d := c, without a guard. -/
def OpIs (P : Program) (G : Nat → Option AV) (all : Array Oper) (i : Nat) (d : Option Nat) (c : COp) : Prop :=
  ∃ o frz, all[i]? = some o ∧ o.guard = none ∧ o.dst = d ∧ compOp P G frz o.op = some c ∧ noDef o = true
theorem wpIn_loopF {F : Fence} {c : Code} {w : World} (J : Nat → Act → World → Prop) {k0 : Nat} (h0 : J k0 a w)
    (round : ∀ k a w, J k a w → c.wpIn F n P (Exit.then (fun a' w' => ∃ k', k' < k ∧ J k' a' w') Q) a w) : (Code.loop c).wpIn F n P Q a w := by
  intro b k cs hro hb hr
  have key : ∀ j a w, J j a w → ∃ e a' w', Q e a' w' ∧ ArrivesIn (Machine.fenced P F) P (lone (b.atR a (.code c :: .inLoop c :: k)) cs w) b k cs e a' w' := by
    intro j
    induction j using Nat.strongRecOn with
    | _ j ih =>
      intro a w hI
      obtain ⟨e, a₁, w₁, hq, harr⟩ := round j a w hI b (.inLoop c :: k) cs hro hb hr
      cases e with
      | normal =>
        obtain ⟨j', hlt, hI₁⟩ := hq
        obtain ⟨e₂, a₂, w₂, hq₂, harr₂⟩ := ih j' hlt a₁ w₁ hI₁
        exact ⟨e₂, a₂, w₂, hq₂, .of_steps (StepsIn.trans harr (.one (fenced_calm hb hr rfl) stepR_inLoop)) harr₂⟩
      | exit id => exact ⟨_, a₁, w₁, hq, .pass (x := .inLoop c) rfl (fun _ _ => .inl (by simp)) harr⟩
      | goto l => exact ⟨_, a₁, w₁, hq, .pass (x := .inLoop c) rfl (fun _ _ => .inl (by simp)) harr⟩
      | ret => exact ⟨_, a₁, w₁, hq, .pass (x := .inLoop c) rfl (fun _ _ => .inl (by simp)) harr⟩
      | panic ch => exact ⟨_, a₁, w₁, hq, .pass (x := .inLoop c) rfl (fun _ _ => .inl (by simp)) harr⟩
      | outgrown => exact ⟨_, a₁, w₁, hq, .pass (x := .inLoop c) rfl (fun _ _ => .inl (by simp)) harr⟩
  obtain ⟨e, a', w', hq, harr⟩ := key _ a w h0
  exact ⟨e, a', w', hq, .of_steps (.one (fenced_calm hb hr rfl) stepR_loop) harr⟩
theorem wanted_none {o : Oper} {f : Nat → Option Bool} (hg : o.guard = none) : Region.wanted o f = true := by simp [Region.wanted, hg]
/-- One operation, whatever it gives. -/
theorem stepIn {i : Nat} {l : List Nat} {d : Option Nat} {c : COp} {e : Env} {h h' : Heap} {k : Nat} {v : AV} (ho : OpIs P G all i d c) (hev : evOp c e h k = some (v, h')) (hG : GOk G M) (hE : ER I M e a.tmps) (hH : RH I M h) (hk : I k = none) (hN : ∀ t, d = some t → t < a.tmps.size)
    (hn : ∀ u M' I', Ext M M' → Le I I' → (∀ x, I' x ≠ none → I x ≠ none ∨ x = k) → RH I' M' h' → RV I' M' v u → ER I' M' (putE e d v) (a.put d u).tmps → wpOpsIn Fence.wide n P all Q l (a.put d u) M'.w) :
    wpOpsIn Fence.wide n P all Q (i :: l) a M.w := by
  obtain ⟨o, frz, h1, h2, h3, h4, h5⟩ := ho
  obtain ⟨u, M', I', g1, g2, g3, g4, g5, g6⟩ := sim_evOp hG hE hH hk h4 hev
  simp only [wpOpsIn, h1]
  rw [if_pos (wanted_none h2)]
  refine upon_round (ro := none) (noDef_ne h5) (wp_runs g1 ?_)
  subst h3
  exact hn u M' I' g2 g3 g4 g5 g6 (ER.put (N := 0) (hE.ext g2 g3) g6 hN)
end
/-! ### The machine's loop -/
def zV0 : List AV := [(.d (.i .i64 (.ofNat 0))), (.d (.s ⟨#[]⟩)), (.d (.i .i64 (.ofNat 0))), (.d (.sl []))]
def zD0 : List D := [(.i .i64 (.ofNat 0)), (.s ⟨#[]⟩), (.i .i64 (.ofNat 0)), (.sl [])]
def o1 (d : Option Nat) (c : COp) : COper := { dst := d, guard := none, op := c }
def cB : List (Nat × COper) := [(0, o1 (some 26) (.bin .geq 0 (.t 25) (.c (.d (.i .i64 (.ofNat 0))))))]
def cX : List (Nat × COper) := [(0, o1 (some 27) (.idxa 4 (.t 15) (.t 25))), (1, o1 (some 18) (.load (some 4) (.t 27)))]
def c4 : List (Nat × COper) := [(0, o1 (some 6) (.alloc zV0)), (1, o1 none (.store 4 (.t 6) (.t 18)))]
def c5 (gc : Nat) : List (Nat × COper) := [(0, o1 (some 19) (.load (some 4) (.t 6))), (2, o1 (some 21) (.load (some 4) (.t 4))), (1, o1 (some 20) (.call gc [.t 19])), (3, o1 (some 22) (.bslice true zD0 2 [(0, .t 20), (1, .t 21)])), (4, o1 (some 23) (.build zV0 [(0, 1, .c (.d (.i .i64 (.ofNat 6)))), (3, 1, .t 22)])), (5, o1 none (.store 4 (.t 4) (.t 23)))]
def cD : List (Nat × COper) := [(0, o1 (some 28) (.bin .sub 0 (.t 25) (.c (.d (.i .i64 (.ofNat 1)))))), (1, o1 (some 25) (.mv (.t 28)))]
def LB (gc : Nat) : CCode := .seq (.reg 20 cB) (.seq (.cond (.t 26) .skip (.exit 0)) (.seq (.reg 2 cX) (.seq (.reg 2 c4) (.seq (.block 1 (.reg 6 (c5 gc))) (.reg 10 cD)))))
theorem bin_ev {op : BinOp} {tag : Nat} {x y : Opd} {e : Env} {h : Heap} {k : Nat} {v : AV} {h' : Heap} (hv : evOp (.bin op tag x y) e h k = some (v, h')) : ∃ d, binA op tag (x.ev e) (y.ev e) = some d ∧ v = .d d ∧ h' = h := by
  simp only [evOp] at hv
  split at hv
  · rename_i d hd; simp only [Option.some.injEq, Prod.mk.injEq] at hv; exact ⟨d, hd, hv.1.symm, hv.2.symm⟩
  · cases hv
theorem T.gs {t : Env} {k : Nat} {v : AV} : T.get (T.set t k v) k = some v := by simp [T.get_set]
theorem T.gs' {α : Type} {t : T α} {k : Nat} {v : α} : T.get (T.set t k v) k = some v := by simp [T.get_set]
theorem T.gn {t : Env} {k j : Nat} {v : AV} (h : j ≠ k) : T.get (T.set t k v) j = T.get t j := by simp [T.get_set, h]
section
variable {F : Nat → Option CFun} {k len : Nat} {ops : List (Nat × COper)} {b : CCode} {s : St}
theorem lift {j m : Nat} {s1 s2 : St} (hj : j ≤ k) (h : evOps (callA F (ev F j)) m ops s1 = some s2) : evOps (callA F (ev F k)) m ops s1 = some s2 := evOps_mono (callA_mono (ev_mono hj)) h
theorem reg_inv (h : ev F k (.reg len ops) s ≠ .bad) : ∃ s1, evOps (callA F (ev F k)) s.n ops ⟨s.e, s.h, s.n + len⟩ = some s1 ∧ ev F k (.reg len ops) s = .nor s1 := by
  obtain ⟨j, s1, rfl, h1, h2⟩ := ev_reg h
  exact ⟨s1, lift (by omega) h1, h2⟩
theorem reg_seq (h : ev F k (.seq (.reg len ops) b) s ≠ .bad) : ∃ s1 j, evOps (callA F (ev F k)) s.n ops ⟨s.e, s.h, s.n + len⟩ = some s1 ∧ j < k ∧ ev F k (.seq (.reg len ops) b) s = ev F j b s1 := by
  obtain ⟨j, rfl, h1, h2⟩ := ev_seq h
  obtain ⟨s1, h3, h4⟩ := reg_inv h1
  rcases h2 with ⟨s1', h5, h6⟩ | ⟨h5, _⟩
  · rw [h4] at h5; cases h5
    exact ⟨s1, j, lift (by omega) h3, by omega, h6⟩
  · exact absurd h4 (h5 s1)
theorem blk_seq {i : Nat} (h : ev F k (.seq (.block i (.reg len ops)) b) s ≠ .bad) : ∃ s1 j, evOps (callA F (ev F k)) s.n ops ⟨s.e, s.h, s.n + len⟩ = some s1 ∧ j < k ∧ ev F k (.seq (.block i (.reg len ops)) b) s = ev F j b s1 := by
  obtain ⟨j, rfl, h1, h2⟩ := ev_seq h
  have hx : ∃ m s1, j = m + 1 ∧ evOps (callA F (ev F m)) s.n ops ⟨s.e, s.h, s.n + len⟩ = some s1 ∧ ev F j (.block i (.reg len ops)) s = .nor s1 := by
    cases j with
    | zero => exact absurd rfl h1
    | succ m =>
      have hev : ev F (m + 1) (.block i (.reg len ops)) s = (match ev F m (.reg len ops) s with | .ex j s => (match j == i with | true => .nor s | false => .ex j s) | r => r) := rfl
      rw [hev] at h1 ⊢
      have : ev F m (.reg len ops) s ≠ .bad := by intro e; rw [e] at h1; exact h1 rfl
      obtain ⟨s1, h3, h4⟩ := reg_inv this
      exact ⟨m, s1, rfl, h3, by rw [h4]⟩
  obtain ⟨m, s1, hm, h3, h4⟩ := hx
  rcases h2 with ⟨s1', h5, h6⟩ | ⟨h5, _⟩
  · rw [h4] at h5; cases h5
    exact ⟨s1, j, lift (by omega) h3, by omega, h6⟩
  · exact absurd h4 (h5 s1)
theorem cond_seq {c : Opd} {i : Nat} (h : ev F k (.seq (.cond c .skip (.exit i)) b) s ≠ .bad) : (c.ev s.e = .d (.b false) ∧ ev F k (.seq (.cond c .skip (.exit i)) b) s = .ex i s) ∨
    (c.ev s.e = .d (.b true) ∧ ∃ j, j < k ∧ ev F k (.seq (.cond c .skip (.exit i)) b) s = ev F j b s) := by
  obtain ⟨j, rfl, h1, h2⟩ := ev_seq h
  cases j with
  | zero => exact absurd rfl h1
  | succ m =>
    have hev : ev F (m + 1) (.cond c .skip (.exit i)) s = (match c.ev s.e with | .d (.b true) => ev F m .skip s | .d (.b false) => ev F m (.exit i) s | _ => .bad) := rfl
    rw [hev] at h1 h2
    cases hc : c.ev s.e with
    | d x =>
      cases x with
      | b x =>
        rw [hc] at h1 h2
        cases m with
        | zero => cases x <;> exact absurd rfl h1
        | succ m =>
          cases x with
          | true =>
            rcases h2 with ⟨s1, h5, h6⟩ | ⟨h5, _⟩
            · have : s1 = s := by have h7 : Out.nor s = .nor s1 := h5; cases h7; rfl
              subst this
              exact .inr ⟨rfl, _, by omega, h6⟩
            · exact absurd rfl (h5 s)
          | false =>
            rcases h2 with ⟨s1, h5, h6⟩ | ⟨_, h6⟩
            · have h7 : Out.ex i s = .nor s1 := h5; cases h7
            · exact .inl ⟨rfl, h6⟩
      | _ => rw [hc] at h1; exact absurd rfl h1
    | _ => rw [hc] at h1; exact absurd rfl h1
end
theorem idxa_heap {sz : Nat} {x i : Opd} {e : Env} {h h' : Heap} {k : Nat} {v : AV} (hv : evOp (.idxa sz x i) e h k = some (v, h')) : h' = h := by
  simp only [evOp] at hv
  repeat' split at hv
  all_goals first | (cases hv; done) | skip
  all_goals (try simp only [bif_none, Option.some.injEq, Prod.mk.injEq] at hv)
  all_goals first | exact hv.2.2.2.symm | exact hv.2.2.symm | exact hv.2.symm | (cases hv.2; done)
/-- What one round of the machine's loop does. -/
theorem lb_round {F : Nat → Option CFun} {gc k : Nat} {s : St} (hb : ev F k (.loop (LB gc)) s ≠ .bad) :
    ∃ b, binA .geq 0 ((s.e.get 25).getD .u) (.d (.i .i64 (.ofNat 0))) = some (.b b) ∧
      match b with
      | false => ev F k (.loop (LB gc)) s = .ex 0 ⟨s.e.set 26 (.d (.b false)), s.h, s.n + 20⟩
      | true => ∃ j v27 v18 s4 s5 d28, k = j + 1 ∧ evOp (.idxa 4 (.t 15) (.t 25)) (s.e.set 26 (.d (.b true))) s.h (s.n + 20) = some (v27, s.h) ∧ loadA (some 4) v27 s.h = some v18 ∧
          evOps (callA F (ev F j)) (s.n + 22) c4 ⟨((s.e.set 26 (.d (.b true))).set 27 v27).set 18 v18, s.h, s.n + 24⟩ = some s4 ∧
          evOps (callA F (ev F j)) s4.n (c5 gc) ⟨s4.e, s4.h, s4.n + 6⟩ = some s5 ∧
          binA .sub 0 ((s5.e.get 25).getD .u) (.d (.i .i64 (.ofNat 1))) = some d28 ∧
          ev F k (.loop (LB gc)) s = ev F j (.loop (LB gc)) ⟨(s5.e.set 28 (.d d28)).set 25 (.d d28), s5.h, s5.n + 10⟩ := by
  cases k with
  | zero => exact absurd rfl hb
  | succ k =>
  have hev : ev F (k + 1) (.loop (LB gc)) s = (match ev F k (LB gc) s with | .nor s => ev F k (.loop (LB gc)) s | r => r) := rfl
  rw [hev] at hb ⊢
  have h0 : ev F k (LB gc) s ≠ .bad := by intro e; rw [e] at hb; exact hb rfl
  obtain ⟨s1, j1, h1, l1, r1⟩ := reg_seq h0
  obtain ⟨v26, g1, g2, g3, _, g4⟩ := evOps_one h1
  simp only [evOps, Option.some.injEq] at g4
  subst g4
  simp only [doOp] at g3
  split at g3
  · rename_i v h hbn
    simp only [Option.some.injEq, Prod.mk.injEq] at g3
    obtain ⟨rfl, rfl, rfl⟩ := g3
    obtain ⟨d, hd, rfl, rfl⟩ := bin_ev hbn
    simp only [Opd.ev] at hd
    have n2 := h0
    rw [LB, r1] at n2
    rw [LB, r1]
    rcases cond_seq n2 with ⟨c1, c2⟩ | ⟨c1, j2, l2, c2⟩
    · simp only [Opd.ev, putE, T.gs, Option.getD_some, AV.d.injEq] at c1
      subst c1
      refine ⟨false, hd, ?_⟩
      simp only
      rw [c2]
      rfl
    · simp only [Opd.ev, putE, T.gs, Option.getD_some, AV.d.injEq] at c1
      subst c1
      refine ⟨true, hd, ?_⟩
      rw [c2] at n2 ⊢
      obtain ⟨s2, j3, h2, l3, r3⟩ := reg_seq n2
      rw [r3] at n2 ⊢
      obtain ⟨v27, q1, q2, q3, _, q4⟩ := evOps_one h2
      obtain ⟨v18, q5, q6, q7, _, q8⟩ := evOps_one q4
      simp only [evOps, Option.some.injEq] at q8
      subst q8
      have hidx : q1 = s.h ∧ q2 = s.n + 20 + 2 ∧ evOp (.idxa 4 (.t 15) (.t 25)) (s.e.set 26 (.d (.b true))) s.h (s.n + 20) = some (v27, s.h) := by
        simp only [doOp] at q3
        split at q3
        · rename_i v h hi
          simp only [Option.some.injEq, Prod.mk.injEq] at q3
          obtain ⟨rfl, rfl, rfl⟩ := q3
          have : h = s.h := idxa_heap hi
          subst this
          exact ⟨rfl, rfl, hi⟩
        · cases q3
      obtain ⟨rfl, rfl, hi⟩ := hidx
      have hld : q5 = s.h ∧ q6 = s.n + 20 + 2 ∧ loadA (some 4) v27 s.h = some v18 := by
        simp only [doOp, evOp, putE, Opd.ev, T.gs, Option.getD_some] at q7
        cases hl : loadA (some 4) v27 s.h with
        | none => simp [hl] at q7
        | some v => simp only [hl, Option.some.injEq, Prod.mk.injEq] at q7; exact ⟨q7.2.1.symm, q7.2.2.symm, by rw [q7.1]⟩
      obtain ⟨rfl, rfl, hl⟩ := hld
      obtain ⟨s4, j4, h3, l4, r4⟩ := reg_seq n2
      rw [r4] at n2 ⊢
      obtain ⟨s5, j5, h4, l5, r5⟩ := blk_seq n2
      rw [r5] at n2 ⊢
      obtain ⟨s6, h5, r6⟩ := reg_inv n2
      rw [r6]
      obtain ⟨v28, p1, p2, p3, _, p4⟩ := evOps_one h5
      obtain ⟨v25, p5, p6, p7, _, p8⟩ := evOps_one p4
      simp only [evOps, Option.some.injEq] at p8
      subst p8
      simp only [doOp] at p3
      split at p3
      · rename_i v h hbn2
        simp only [Option.some.injEq, Prod.mk.injEq] at p3
        obtain ⟨rfl, rfl, rfl⟩ := p3
        obtain ⟨d28, hd28, rfl, rfl⟩ := bin_ev hbn2
        simp only [doOp, evOp, putE, Opd.ev, T.gs, Option.getD_some, Option.some.injEq, Prod.mk.injEq] at p7
        obtain ⟨rfl, rfl, rfl⟩ := p7
        exact ⟨k, v27, v18, s4, s5, d28, rfl, hi, hl, lift (by omega) h3, lift (by omega) h4, hd28, rfl⟩
      · cases p3
  · cases g3
end Tm
/- dnf.BranchType: one round of the range over a function. No statement of the seat is proved here. -/
namespace Tm
open Go
set_option linter.unusedVariables false
set_option linter.unusedSimpArgs false
section
variable {P : Program} {G : Nat → Option AV} {pu : Nat → Bool} {F : Nat → Option CFun}
/-- A record is turned and turned back. -/
theorem around {M M1 M3 : Mem} {l : Nat} {ob busy : Obj} (h1 : Ext M M1) (h3 : Ext (M1.putO l busy) M3) (hob : M.w.heap[l]? = some ob) (hr : isRec ob = true) (hb : isRec busy = true) (hlo : M.lo ≤ l) : Ext M (M3.putO l ob) ∧ (M3.putO l ob).w.heap[l]? = some ob := by
  have e1 := h1.oth l ob hob hr
  have hl1 := (Array.getElem?_eq_some_iff.1 e1).1
  have e2 : (M1.putO l busy).w.heap[l]? = some busy := World.putObj_heap_same hl1
  have e3 := h3.oth l busy e2 hb
  have hl3 := (Array.getElem?_eq_some_iff.1 e3).1
  have e4 : (M3.putO l ob).w.heap[l]? = some ob := World.putObj_heap_same hl3
  have n2 : ∀ b, b ≠ l → (M1.putO l busy).w.heap[b]? = M1.w.heap[b]? := fun b hb => World.putObj_heap_other hb
  have n4 : ∀ b, b ≠ l → (M3.putO l ob).w.heap[b]? = M3.w.heap[b]? := fun b hb => World.putObj_heap_other hb
  have c2 : ∀ b, cellsOf (M1.putO l busy).w b = cellsOf M1.w b := fun b => by
    by_cases hbl : b = l
    · subst hbl; rw [cellsOf_rec e2 hb, cellsOf_rec e1 hr]
    · unfold cellsOf; rw [n2 b hbl]
  have c4 : ∀ b, cellsOf (M3.putO l ob).w b = cellsOf M3.w b := fun b => by
    by_cases hbl : b = l
    · subst hbl; rw [cellsOf_rec e4 hr, cellsOf_rec e3 hb]
    · unfold cellsOf; rw [n4 b hbl]
  refine ⟨⟨h3.lo.trans h1.lo, h3.os.trans h1.os, h3.tape.trans h1.tape, h3.out.trans h1.out, ?_, fun b hb => ?_, fun b => Nat.le_trans (h1.fz b) (h3.fz b), fun b hb => ?_, fun b => ?_, fun b o k1 k2 => ?_⟩, e4⟩
  · have a1 := h1.size
    have a2 := h3.size
    have a3 : (M1.putO l busy).w.heap.size = M1.w.heap.size := by simp [Mem.putO, World.putObj]
    have a4 : (M3.putO l ob).w.heap.size = M3.w.heap.size := by simp [Mem.putO, World.putObj]
    omega
  · have hbl : b ≠ l := by omega
    rw [n4 b hbl, h3.low b (by show b < M1.lo; rw [h1.lo]; exact hb), n2 b hbl, h1.low b hb]
  · show M3.fz b = _
    rw [h3.fzl b (by show b < M1.lo; rw [h1.lo]; exact hb)]
    exact h1.fzl b hb
  · rw [c4]
    have e := congrArg (List.take (M.fz b)) (h3.cells b)
    rw [List.take_take, List.take_take, c2] at e
    have hle : M.fz b ≤ (M1.putO l busy).fz b := h1.fz b
    rw [Nat.min_eq_left hle] at e
    exact e.trans (h1.cells b)
  · by_cases hbl : b = l
    · subst hbl; rw [hob] at k1; cases k1; exact e4
    · rw [n4 b hbl]
      exact h3.oth b o ((n2 b hbl).trans (h1.oth b o k1 k2)) k2
theorem bt_round {C : CallF} {gc N id4 id5 n1 m l : Nat} {o4 o5 : Array Oper} {e3 : Env} {h : Heap} {s4 s5 : St} {v4 v18 : AV} {M : Mem} {I : Inj} {rec : Loop} {u12 u18 : Value} (hm : P.follows .mixedOrders = true) (hC : CallOK P G C) (hpu : ∀ g args h n v h' n', pu g = true → C g args h n = some (v, h', n') → Soft n h h')
    (h4 : compReg P G pu N o4 false = some c4) (h5 : compReg P G pu N o5 true = some (c5 gc)) (z4 : o4.size = 2) (z5 : o5.size = 6) (d4 : ∀ (i : Nat) o, o4[i]? = some o → noDef o = true) (d5 : ∀ (i : Nat) o, o5[i]? = some o → noDef o = true)
    (m4 : evOps C n1 c4 ⟨e3, h, n1 + 2⟩ = some s4) (m5 : evOps C s4.n (c5 gc) ⟨s4.e, s4.h, s4.n + 6⟩ = some s5) (k4 : e3.get 4 = some v4) (k18 : e3.get 18 = some v18)
    (hG : GOk G M) (hH : RH I M h) (hf : ∀ x, n1 ≤ x → I x = none) (hrec : M.w.heap[l]? = some (.loop rec)) (hst : rec.state = .ready) (hpe : rec.pending = none) (hps : rec.params = #[17, 18]) (has : rec.assign = .region id4 o4 false) (hbo : rec.body = .block 1 (.region id5 o5 true)) (hlo : M.lo ≤ l)
    (r4 : RV I M v4 (rec.tmps.getD 4 undef)) (r18 : RV I M v18 u18) (hN : N ≤ rec.tmps.size) (hN18 : 18 < rec.tmps.size) :
    RoundIn Fence.wide m P l rec.fn ((rec.params.zip #[u12, u18]).foldl (fun tmps (t, a) => tmps.setIfInBounds t a) rec.tmps) rec.assign rec.body M.w (fun e w' => e = .returned (.bool true) ∧ ∃ M' I', w' = M'.w ∧ Ext M M' ∧ Le I I' ∧ (∀ x, I' x ≠ none → I x ≠ none ∨ (n1 ≤ x ∧ x < s5.n)) ∧ n1 ≤ s5.n ∧ RH I' M' s5.h ∧ M'.w.heap[l]? = some (.loop rec)) := by
  rw [hps, has, hbo]
  have htm : ((#[17, 18].zip #[u12, u18]).foldl (fun (tmps : Array Value) (t, a) => tmps.setIfInBounds t a) rec.tmps) = (rec.tmps.setIfInBounds 17 u12).setIfInBounds 18 u18 := by
    rw [← Array.foldl_toList, Array.toList_zip]; rfl
  rw [htm]
  generalize hT : (rec.tmps.setIfInBounds 17 u12).setIfInBounds 18 u18 = TT
  have hTs : TT.size = rec.tmps.size := by rw [← hT]; simp
  have hT4 : TT.getD 4 undef = rec.tmps.getD 4 undef := by
    rw [← hT]; simp [Array.getD_eq_getD_getElem?, Array.getElem?_setIfInBounds]
  have hT18 : TT.getD 18 undef = u18 := by
    rw [← hT]; simp [Array.getD_eq_getD_getElem?, Array.getElem?_setIfInBounds, hN18]
  -- the machine, over the names 4 and 18 alone
  let e' : Env := (T.set .lf 4 v4).set 18 v18
  have he' : ∀ t ∈ [4, 18], e3.get t = e'.get t := by
    intro t ht
    simp only [List.mem_cons, List.not_mem_nil, or_false] at ht
    rcases ht with rfl | rfl
    · rw [k4]; simp [e', T.get_set]
    · rw [k18]; simp [e', T.get_set]
  obtain ⟨e2, p1, p2, p3⟩ := evOps_part (A := [4, 18]) (by decide) he' m4
  obtain ⟨e5, q1, q2, q3⟩ := evOps_part (A := [4, 6]) (e' := e2) (l := c5 gc) (by simp [inA, c5, o1, COp.ts, Opd.ts, tsL, tsP2, tsP3, dl]) (fun t ht => p2 t (by
    simp only [List.mem_cons, List.not_mem_nil, or_false] at ht
    rcases ht with rfl | rfl
    · simp
    · simp [dsts, c4, o1, dl])) m5
  have hE : ER I M e' TT := fun t => by
    simp only [e', T.get_set]
    by_cases h18 : t = 18
    · subst h18; rw [if_pos rfl, Option.getD_some, hT18]; exact r18
    · rw [if_neg h18]
      by_cases h4 : t = 4
      · subst h4; rw [if_pos rfl, Option.getD_some, hT4]; exact r4
      · rw [if_neg h4]; exact RV.undef
  refine roundIn_of_wpIn (F := Fence.wide) trivial (wpIn_region ?_)
  refine wpOps_round (ro := some l) (fun ⟨a, w, hh⟩ => hh.elim) d4 _ _ _ ?_
  rw [List.range_eq_range', z4]
  have hl4 : o4.toList.length = 2 := by simp [z4]
  rw [← hl4]
  refine sim_plainOps hC o4.toList 0 c4 ⟨e', h, n1 + 2⟩ ⟨e2, s4.h, s4.n⟩ I M _ rfl rfl h4 p1 ⟨hE, hH, hG⟩ (by rw [hTs]; exact hN) (by rw [z4]; exact Nat.le_refl _) (fun x hx => ?_) (fun a' w' I' M' e1 e2' e3' e4 e5' e6 e7 e8 => ?_)
  · rcases Nat.lt_or_ge x n1 with h | h
    · exact .inl (by omega)
    · exact absurd (hf x h) hx
  subst e8
  have hl' := e1.oth l _ hrec rfl
  refine ⟨_, run_beginRound hl' hst, wpIn_block (wpIn_region_any (F := Fence.wide.inRound l) hm ?_)⟩
  have hpo := putO_rel (o' := .loop { rec with state := .busy }) e4.rh hl' rfl rfl (by rw [e1.lo]; exact hlo)
  -- the round's frame with the record busy
  have hXW : ExtW M' (M'.putO l (.loop { rec with state := .busy })) := ⟨rfl, hpo.2.1, fun _ => Nat.le_refl _, fun b => by rw [hpo.2.2.1]⟩
  have hE2 : ER I' (M'.putO l (.loop { rec with state := .busy })) e2 a'.tmps := fun t => (e4.er t).extW hXW (Le.refl I')
  have hG2 : GOk G (M'.putO l (.loop { rec with state := .busy })) := fun g av hg => ⟨(e4.g g av hg).1, fun J => ((e4.g g av hg).2 J).extW hXW (Le.refl J)⟩
  refine wpAny_round (ro := some l) (P := P) (fun ⟨a, w, hh⟩ => hh.elim) d5 _ _ _ _ ?_
  have q1' : evOps C s4.n (c5 gc) ⟨e2, s4.h, s4.n + o5.size⟩ = some ⟨e5, s5.h, s5.n⟩ := by rw [z5]; exact q1
  refine sim_any (M := M'.putO l (.loop { rec with state := .busy })) (I := I') (s := ⟨e2, s4.h, s4.n⟩) (s' := ⟨e5, s5.h, s5.n⟩) hC hpu h5 q1' ⟨hE2, hpo.1, hG2⟩ (by rw [e5', hTs]; exact hN) (fun x hx => ?_) (fun a2 w2 I2 M2 f1 f2 f3 f4 f5 f6 f7 f8 => ?_)
  · cases hq : I' x with
    | none => rfl
    | some q =>
      have hx' : s4.n ≤ x := hx
      rcases e3' x (by rw [hq]; simp) with h1 | h1
      · have : n1 + 2 ≤ s4.n := e7
        exact absurd (hf x (by omega)) h1
      · have : x < s4.n := h1.2
        omega
  subst f8
  have hbusy : (M'.putO l (.loop { rec with state := .busy })).w.heap[l]? = some (.loop { rec with state := .busy }) := World.putObj_heap_same (Array.getElem?_eq_some_iff.1 hl').1
  have hl2 := f1.oth l _ hbusy rfl
  obtain ⟨x1, x2⟩ := around (ob := .loop rec) e1 f1 hrec rfl rfl hlo
  have hpo2 := putO_rel (o' := .loop rec) f4.rh hl2 rfl rfl (by rw [f1.lo]; show M'.lo ≤ l; rw [e1.lo]; exact hlo)
  refine ⟨_, _, run_endRound none hl2, rfl, M2.putO l (.loop rec), I2, ?_, x1, e2'.trans f2, fun x hx => ?_, ?_, hpo2.1, x2⟩
  · have : ({ { rec with state := .busy } with state := if (none : Option Code).isNone then LoopState.ready else .done, pending := none } : Loop) = rec := by
      cases rec; simp only at hst hpe; subst hst hpe; rfl
    rw [this]; rfl
  · have a1 : n1 + 2 ≤ s4.n := e7
    have a2 : s4.n + o5.size ≤ s5.n := f7
    rcases f3 x hx with h1 | h1
    · rcases e3' x h1 with h2 | h2
      · exact .inl h2
      · have : x < s4.n := h2.2
        exact .inr ⟨h2.1, by omega⟩
    · have : s4.n ≤ x ∧ x < s5.n := h1
      exact .inr (by omega)
  · have a1 : n1 + 2 ≤ s4.n := e7
    have a2 : s4.n + o5.size ≤ s5.n := f7
    omega
end
end Tm
/- dnf.BranchType: slices.Backward's iterator with BranchType's round. No statement of the seat is proved here. -/
namespace Tm
open Go
set_option linter.unusedVariables false
set_option linter.unusedSimpArgs false
section
variable {I J : Inj} {M : Mem}
mutual
theorem RVc.anyI : ∀ (x : AV) (cs : List Value), nf x = true → RVc I M x cs → RVc J M x cs
  | .d x, cs, _, r => by simp only [RVc] at r ⊢; exact r
  | .u, _, _, r => by simp only [RVc] at r
  | .tu _, _, _, r => by simp only [RVc] at r
  | .np, _, _, r => by simpa only [RVc] using r
  | .nm, _, _, r => by simpa only [RVc] using r
  | .nf, _, _, r => by simpa only [RVc] using r
  | .p a o, _, hn, _ => by simp [nf] at hn
  | .pe l o, _, hn, r => by
    simp only [RVc] at r ⊢
    obtain ⟨b, o0, e, hb, hl, hr, hnf⟩ := r
    exact ⟨b, o0, e, hb, hl, RVs.anyI l _ hnf hr, hnf⟩
  | .zl l, _, _, r => by simp only [RVc] at r ⊢; exact r
  | .bs l, _, _, r => by simp only [RVc] at r ⊢; exact r
  | .sl a lo n, _, hn, _ => by simp [nf] at hn
  | .m a, _, hn, _ => by simp [nf] at hn
  | .mp ks vs, _, _, r => by
    simp only [RVc] at r ⊢
    obtain ⟨b, es, ck, e, hb, hm, hk, hv, hnf⟩ := r
    exact ⟨b, es, ck, e, hb, hm, hk, RVl.anyI _ _ hnf hv, hnf⟩
  | .f g fs cps, _, hn, r => by
    simp only [RVc] at r ⊢
    simp only [nf, Bool.and_eq_true] at hn
    obtain ⟨a, b, e, h1, h2⟩ := r
    exact ⟨a, b, e, RVl.anyI _ _ hn.1 h1, RVl.anyI _ _ hn.2 h2⟩
  | .ag l, cs, hn, r => by
    simp only [RVc] at r ⊢
    simp only [nf] at hn
    exact RVs.anyI l cs hn r
theorem RVs.anyI : ∀ (l : List AV) (cs : List Value), nfs l = true → RVs I M l cs → RVs J M l cs
  | [], _, _, r => by simpa only [RVs] using r
  | x :: l, cs, hn, r => by
    simp only [RVs] at r ⊢
    simp only [nfs, Bool.and_eq_true] at hn
    obtain ⟨v, t, e, hg, hx, hl⟩ := r
    exact ⟨v, t, e, hg, RVc.anyI x _ hn.1 hx, RVs.anyI l t hn.2 hl⟩
theorem RVl.anyI : ∀ (l : List AV) (cs : List Value), nfs l = true → RVl I M l cs → RVl J M l cs
  | [], _, _, r => by simpa only [RVl] using r
  | x :: l, cs, hn, r => by
    simp only [RVl] at r ⊢
    simp only [nfs, Bool.and_eq_true] at hn
    obtain ⟨v, t, e, hx, hl⟩ := r
    exact ⟨v, t, e, hx.imp id fun hx => ⟨hx.1, RVc.anyI x _ hn.1 hx.2⟩, RVl.anyI l t hn.2 hl⟩
end
theorem RV.anyI {v : AV} {u : Value} (hn : nf v = true) (ht : okV v = true) (r : RV I M v u) : RV J M v u :=
  .inl ((r.one (fun l e => by subst e; simp [okV] at ht)).imp id fun hx => ⟨hx.1, RVc.anyI v _ hn hx.2⟩)
end
section
variable {P : Program} {G : Nat → Option AV} {pu : Nat → Bool} {F : Nat → Option CFun} {I : Inj} {M : Mem} {a : Act}
theorem ER.two {e : Env} {tmps : Array Value} {x y : AV} (h : ER I M e tmps) (h1 : e.get 1 = some x) (h3 : e.get 3 = some y) : ER I M ((T.set .lf 1 x).set 3 y) tmps := fun t => by
  simp only [T.get_set]
  by_cases e3 : t = 3
  · subst e3; rw [if_pos rfl, Option.getD_some]; have := h 3; rw [h3] at this; exact this
  · rw [if_neg e3]
    by_cases e1 : t = 1
    · subst e1; rw [if_pos rfl, Option.getD_some]; have := h 1; rw [h1] at this; exact this
    · rw [if_neg e1]; exact RV.undef
theorem evOps_keep {C : CallF} {n0 : Nat} {l : List (Nat × COper)} {A : List Nat} {s s' : St} (hA : inA A l = true) (h : evOps C n0 l s = some s') : ∀ t, t ∉ dsts l → s'.e.get t = s.e.get t := fun t ht => by
  obtain ⟨e2, _, _, h3⟩ := evOps_part (e' := s.e) hA (fun _ _ => rfl) h
  exact (h3 t ht).1
theorem wp_range {ops : Array Oper} {F : Fence} {n : Nat} {Q : Exit → Act → World → Prop} {w : World} {id : Nat} {l : List Nat} (hl : List.range ops.size = l) (h : wpOpsIn F n P ops Q l a w) : (Code.region id ops false).wpIn F n P Q a w := wpIn_region (by rw [hl]; exact h)
/-- The free names. -/
def Free (I : Inj) (n : Nat) : Prop := ∀ x, n ≤ x → I x = none
theorem Free.after {I I' : Inj} {n k m : Nat} (h : Free I n) (hx : ∀ x, I' x ≠ none → I x ≠ none ∨ x = k) (hk : k < m) (hm : n ≤ m) : Free I' m := fun x hx' => by
  cases hq : I' x with
  | none => rfl
  | some q =>
    rcases hx x (by rw [hq]; simp) with h1 | h1
    · exact absurd (h x (by omega)) h1
    · omega
/-- Names of J are those of I or lie in [m, n). -/
def News (I J : Inj) (m n : Nat) : Prop := ∀ x, J x ≠ none → I x ≠ none ∨ (m ≤ x ∧ x < n)
theorem News.refl {I : Inj} {m n : Nat} : News I I m n := fun x hx => .inl hx
theorem News.step {I J K : Inj} {m n k : Nat} (h : News I J m n) (hx : ∀ x, K x ≠ none → J x ≠ none ∨ x = k) (h1 : m ≤ k) (h2 : k < n) : News I K m n := fun x hx' => by
  rcases hx x hx' with h3 | h3
  · exact h x h3
  · exact .inr (by omega)
theorem News.wide {I J : Inj} {m n m' n' : Nat} (h : News I J m n) (h1 : m' ≤ m) (h2 : n ≤ n') : News I J m' n' := fun x hx => (h x hx).imp id fun h3 => by omega
theorem News.trans {I J K : Inj} {m n : Nat} (h : News I J m n) (h' : News J K m n) : News I K m n := fun x hx => by
  rcases h' x hx with h1 | h1
  · exact h x h1
  · exact .inr h1
theorem News.free {I J : Inj} {m n : Nat} (h : News I J m n) (hf : Free I m) (hmn : m ≤ n) : Free J n := fun x hx => by
  cases hq : J x with
  | none => rfl
  | some q =>
    rcases h x (by rw [hq]; simp) with h1 | h1
    · exact absurd (hf x (by omega)) h1
    · omega
end
end Tm
/- dnf.BranchType: slices.Backward's iterator with BranchType's round. No statement of the seat is proved here. -/
namespace Tm
open Go
set_option linter.unusedVariables false
set_option linter.unusedSimpArgs false
section
variable {P : Program} {G : Nat → Option AV} {pu : Nat → Bool} {F : Nat → Option CFun} {I : Inj} {M : Mem} {a : Act}
/-- The code of slices.Backward's iterator. -/
structure ItC (P : Program) (G : Nat → Option AV) (gI : Nat) (i0 i1 i2 i3 : Array Oper) (o30 o36 : Oper) : Prop where
  fn : ∃ f j0 j1 j2 j3, P.funcs[gI]? = some f ∧ (f.name == "runtime.NumGoroutine") = false ∧ f.ntmps = 19 ∧ f.results = #[] ∧ f.body = some (.seq (.region j0 i0 false) (.block 0 (.loop (.seq (.seq (.region j1 i1 false) (.cond (.tmp 8) .skip (.exit 0))) (.seq (.block 1 (.seq (.region j3 i3 false) (.cond (.tmp 18) .ret .skip))) (.region j2 i2 false))))))
  z0 : i0.size = 4
  z1 : i1.size = 2
  z2 : i2.size = 3
  z3 : i3.size = 8
  a0 : OpIs P G i0 0 (some 4) (.load none (.t 1))
  a1 : OpIs P G i0 1 (some 5) (.len false (.t 4))
  a2 : OpIs P G i0 2 (some 6) (.bin .sub 0 (.t 5) (.c (.d (.i .i64 (.ofNat 1)))))
  a3 : OpIs P G i0 3 (some 3) (.mv (.t 6))
  b0 : OpIs P G i1 0 (some 7) (.mv (.t 3))
  b1 : OpIs P G i1 1 (some 8) (.bin .geq 0 (.t 7) (.c (.d (.i .i64 (.ofNat 0)))))
  c0 : i3[0]? = some o30 ∧ o30.guard = none ∧ o30.dst = some 11 ∧ o30.op = .move (.tmp 0)
  c1 : OpIs P G i3 1 (some 12) (.mv (.t 3))
  c2 : OpIs P G i3 2 (some 13) (.load none (.t 1))
  c3 : OpIs P G i3 3 (some 14) (.mv (.t 3))
  c4 : OpIs P G i3 4 (some 15) (.idxa 4 (.t 13) (.t 14))
  c5 : OpIs P G i3 5 (some 16) (.load (some 4) (.t 15))
  c6 : i3[6]? = some o36 ∧ o36.guard = none ∧ o36.dst = some 17 ∧ ∃ as ts, o36.op = .call ⟨.value (.tmp 11), as, ts⟩ ∧ as.toList = [.tmp 12, .tmp 16]
  c7 : OpIs P G i3 7 (some 18) (.un .not (.t 17))
  d0 : OpIs P G i2 0 (some 9) (.mv (.t 3))
  d1 : OpIs P G i2 1 (some 10) (.bin .sub 0 (.t 9) (.c (.d (.i .i64 (.ofNat 1)))))
  d2 : OpIs P G i2 2 (some 3) (.mv (.t 10))
/-- How far one has come. -/
structure Pk (G : Nat → Option AV) (I : Inj) (M : Mem) (nb : Nat) (J : Inj) (N : Mem) (n : Nat) : Prop where
  ext : Ext M N
  le : Le I J
  new : News I J nb n
  fr : Free I nb
  nn : nb ≤ n
  g : GOk G M
theorem Pk.gg {nb n : Nat} {J : Inj} {N : Mem} (h : Pk G I M nb J N n) : GOk G N := h.g.ext h.ext
theorem Pk.wide {nb n n' : Nat} {J : Inj} {N : Mem} (h : Pk G I M nb J N n) (hn : n ≤ n') : Pk G I M nb J N n' := ⟨h.ext, h.le, h.new.wide (Nat.le_refl _) hn, h.fr, Nat.le_trans h.nn hn, h.g⟩
theorem Pk.start {nb : Nat} (hf : Free I nb) (hg : GOk G M) : Pk G I M nb I M nb := ⟨Ext.refl M, Le.refl I, News.refl, hf, Nat.le_refl _, hg⟩
theorem Pk.step {nb ni n : Nat} {J : Inj} {N : Mem} {all : Array Oper} {Q : Exit → Act → World → Prop} {i : Nat} {l : List Nat} {d : Option Nat} {c : COp} {e : Env} {h h' : Heap} {v : AV} (hp : Pk G I M nb J N ni) (ho : OpIs P G all i d c) (hev : evOp c e h ni = some (v, h')) (hE : ER J N e a.tmps) (hH : RH J N h) (hN : ∀ t, d = some t → t < a.tmps.size)
    (hn : ∀ u M' I', Pk G I M nb I' M' (ni + 1) → Le J I' → Ext N M' → RH I' M' h' → RV I' M' v u → ER I' M' (putE e d v) (a.put d u).tmps → wpOpsIn Fence.wide n P all Q l (a.put d u) M'.w) :
    wpOpsIn Fence.wide n P all Q (i :: l) a N.w := by
  have hk : J ni = none := hp.new.free hp.fr hp.nn ni (Nat.le_refl _)
  refine stepIn ho hev hp.gg hE hH hk hN fun u M' I' x1 x2 x3 x4 x5 x6 => hn u M' I' ⟨hp.ext.trans x1, hp.le.trans x2, (hp.new.wide (Nat.le_refl _) (Nat.le_succ _)).step x3 hp.nn (Nat.lt_succ_self _), hp.fr, Nat.le_succ_of_le hp.nn, hp.g⟩ x2 x1 x4 x5 x6
/-- What goes on between two rounds. -/
structure Btw (G : Nat → Option AV) (F : Nat → Option CFun) (gc l : Nat) (rec : Loop) (v15 v4 : AV) (s0 sf : St) (nb : Nat) (I : Inj) (M : Mem) (k : Nat) (a : Act) (w : World) (s : St) (M2 : Mem) (I2 : Inj) (v25 : AV) : Prop where
  run : ev F k (.loop (LB gc)) s = .ex 0 sf
  e15 : s.e.get 15 = some v15
  e4 : s.e.get 4 = some v4
  e2 : s.e.get 2 = s0.e.get 2
  w : w = M2.w
  pk : Pk G I M nb I2 M2 s.n
  rh : RH I2 M2 s.h
  rc : M2.w.heap[l]? = some (.loop rec)
  e25 : s.e.get 25 = some v25
  er : ER I2 M2 ((T.set .lf 1 (.pe [v15] 0)).set 3 v25) a.tmps
  sz : a.tmps.size = 19
  df : a.defers = []
  t0 : a.eval (.tmp 0) = .func (.yield l) #[] #[]
/-- The end. -/
def BtEnd (G : Nat → Option AV) (l : Nat) (rec : Loop) (s0 sf : St) (nb : Nat) (I : Inj) (M : Mem) (w' : World) : Prop := ∃ M' I', w' = M'.w ∧ Pk G I M nb I' M' sf.n ∧ RH I' M' sf.h ∧ M'.w.heap[l]? = some (.loop rec) ∧ sf.e.get 4 = s0.e.get 4 ∧ sf.e.get 2 = s0.e.get 2
theorem opsIn_at {all : Array Oper} {n i : Nat} {l : List Nat} {o : Oper} {Q : Exit → Act → World → Prop} {w : World} (ho : all[i]? = some o) (hg : o.guard = none) (h : o.wpIn Fence.wide n P a w (wpOpsIn Fence.wide n P all Q l) Q) : wpOpsIn Fence.wide n P all Q (i :: l) a w := by
  simp only [wpOpsIn, ho]
  rw [if_pos (wanted_none hg)]
  exact h
theorem opsIn_val {all : Array Oper} {n i : Nat} {l : List Nat} {o : Oper} {Q : Exit → Act → World → Prop} {w w' : World} {u : Value} (ho : all[i]? = some o) (hg : o.guard = none) (hd : ∀ c, o.op ≠ .defer c) (hr : (execOp a.eval o).run P w = .ok (.value u) w') (h : wpOpsIn Fence.wide n P all Q l (a.put o.dst u) w') : wpOpsIn Fence.wide n P all Q (i :: l) a w := by
  refine opsIn_at ho hg ⟨fun _ _ => trivial, ?_⟩
  rw [Oper.semAt_eq _ _ _ hd, hr]
  exact h
theorem idxa_congr {sz k k' : Nat} {x i x' i' : Opd} {e e' : Env} {h : Heap} (hx : x.ev e = x'.ev e') (hi : i.ev e = i'.ev e') : evOp (.idxa sz x i) e h k = evOp (.idxa sz x' i') e' h k' := by simp only [evOp, hx, hi]
theorem bin_congr {op : BinOp} {tag k : Nat} {x y : Opd} {e : Env} {h : Heap} {a b : AV} {d : D} (hx : x.ev e = a) (hy : y.ev e = b) (hb : binA op tag a b = some d) : evOp (.bin op tag x y) e h k = some (.d d, h) := by simp only [evOp, hx, hy, hb]
theorem bt_iter {gc gI N id4 id5 m l kk nb : Nat} {o4 o5 i0 i1 i2 i3 : Array Oper} {o30 o36 : Oper} {s0 sf : St} {v4 v15 : AV} {d25 : D} {L : Int} {rec : Loop} {u1 : Value} (hm : P.follows .mixedOrders = true) (hC : ∀ j, j < kk → CallOK P G (callA F (ev F j))) (hpu : ∀ j g args h n v h' n', pu g = true → callA F (ev F j) g args h n = some (v, h', n') → Soft n h h')
    (h4 : compReg P G pu N o4 false = some c4) (h5 : compReg P G pu N o5 true = some (c5 gc)) (z4 : o4.size = 2) (z5 : o5.size = 6) (d4 : ∀ (i : Nat) o, o4[i]? = some o → noDef o = true) (d5 : ∀ (i : Nat) o, o5[i]? = some o → noDef o = true)
    (hK : ItC P G gI i0 i1 i2 i3 o30 o36) (hrun : ev F kk (.loop (LB gc)) s0 = .ex 0 sf) (k15 : s0.e.get 15 = some v15) (k4 : s0.e.get 4 = some v4) (k25 : s0.e.get 25 = some (.d d25)) (hnf : nf v15 = true) (hag : nAgV v15 = true)
    (hlen : ∀ (x : Opd) (e : Env) (h : Heap) (k : Nat), x.ev e = v15 → evOp (.len false x) e h k = some (.d (.i .i64 L), h)) (hsub : binA .sub 0 (.d (.i .i64 L)) (.d (.i .i64 (.ofNat 1))) = some d25)
    (hG : GOk G M) (hH : RH I M s0.h) (hf : Free I nb) (hnb : nb + 10 ≤ s0.n) (hrec : M.w.heap[l]? = some (.loop rec)) (hst : rec.state = .ready) (hpe : rec.pending = none) (hps : rec.params = #[17, 18]) (has : rec.assign = .region id4 o4 false) (hbo : rec.body = .block 1 (.region id5 o5 true)) (hlo : M.lo ≤ l)
    (r4 : RV I M v4 (rec.tmps.getD 4 undef)) (hN : N ≤ rec.tmps.size) (hN18 : 18 < rec.tmps.size) (r1 : RV I M (.pe [v15] 0) u1) :
    CallsIn Fence.wide m P gI #[.func (.yield l) #[] #[], u1] M.w (fun e w' => (∃ v, e = .returned v) ∧ BtEnd G l rec s0 sf nb I M w') := by
  obtain ⟨f, j0, j1, j2, j3, q1, _, q2, q3, q4⟩ := hK.fn
  refine callsIn_of_wp q1 q4 trivial ?_ rfl
  rw [q2]
  refine wpIn_seq (wp_range (l := [0, 1, 2, 3]) (by rw [hK.z0]; rfl) ?_)
  have hnag : ∀ l, v15 ≠ .tu l := by rintro l rfl; simp [nAgV] at hag
  have hok : okV v15 = true := by cases v15 <;> first | rfl | (simp [nAgV] at hag)
  generalize hA : ({ tmps := #[Value.func (.yield l) #[] #[], u1] ++ Array.replicate (19 - #[Value.func (.yield l) #[] #[], u1].size) undef, defers := [] } : Act) = A
  have hAs : A.tmps.size = 19 := by rw [← hA]; simp
  have hA0 : A.eval (.tmp 0) = .func (.yield l) #[] #[] := by rw [← hA]; simp [Act.eval]
  have hAd : A.defers = [] := by rw [← hA]
  have E0 : ER I M (T.set .lf 1 (.pe [v15] 0)) A.tmps := fun t => by
    simp only [T.get_set]
    by_cases h1 : t = 1
    · subst h1; rw [if_pos rfl, Option.getD_some, ← hA]; simpa [Array.getD_eq_getD_getElem?] using r1
    · rw [if_neg h1]; exact RV.undef
  clear hA
  have hp0 := Pk.start hf hG
  refine hp0.step hK.a0 (e := T.set .lf 1 (.pe [v15] 0)) (h := s0.h) (h' := s0.h) (v := v15) (by simp [evOp, Opd.ev, T.gs, loadA, loadC]) E0 hH (by simp [hAs]) ?_
  intro w4 M1 I1 hp1 _ _ H1 R1 E1
  refine hp1.step hK.a1 (hlen _ _ s0.h _ (by simp [putE, Opd.ev, T.gs])) E1 H1 (by simp [hAs, put_size]) ?_
  intro w5 M2 I2 hp2 _ _ H2 R2 E2
  refine hp2.step hK.a2 (v := .d d25) (h' := s0.h) (by simp only [evOp, putE, Opd.ev, T.gs, Option.getD_some, hsub]) E2 H2 (by simp [hAs, put_size]) ?_
  intro w6 M3 I3 hp3 _ _ H3 R3 E3
  refine hp3.step hK.a3 (v := .d d25) (h' := s0.h) (by simp only [evOp, putE, Opd.ev, T.gs, Option.getD_some]) E3 H3 (by simp [hAs, put_size]) ?_
  intro w3 M4 I4 hp4 _ _ H4 R4 E4
  refine wpIn_block (wpIn_loopF (fun k a w => k ≤ kk ∧ ∃ s M2 I2 v25, Btw G F gc l rec v15 v4 s0 sf nb I M k a w s M2 I2 v25) (k0 := kk) ⟨Nat.le_refl _, s0, M4, I4, .d d25, ?_⟩ ?_)
  · refine ⟨hrun, k15, k4, rfl, rfl, hp4.wide (by omega), H4, hp4.ext.oth l _ hrec rfl, k25, ?_, by simp [put_size, hAs], by simp [put_defers', hAd], ?_⟩
    · exact E4.two (by simp [putE, T.get_set]) (by simp [putE, T.get_set])
    · rw [eval_put_ne (by decide), eval_put_ne (by decide), eval_put_ne (by decide), eval_put_ne (by decide)]; exact hA0
  · rintro k b w ⟨hk, s, M5, I5, v25, hB⟩
    have hw := hB.w
    subst hw
    have hnb2 : ev F k (.loop (LB gc)) s ≠ .bad := by rw [hB.run]; simp
    obtain ⟨bb, hbin, hcase⟩ := lb_round hnb2
    rw [hB.e25, Option.getD_some] at hbin
    refine wpIn_seq (wpIn_seq (wp_range (l := [0, 1]) (by rw [hK.z1]; rfl) ?_))
    refine hB.pk.step hK.b0 (h := s.h) (h' := s.h) (v := v25) (by simp only [evOp, Opd.ev, T.gs, Option.getD_some]) hB.er hB.rh (by simp [hB.sz]) ?_
    intro w7 M6 I6 hp6 le6 x6 H6 R6 E6
    refine hp6.step hK.b1 (v := .d (.b bb)) (h' := s.h) (bin_congr (by simp only [putE, Opd.ev, T.gs, Option.getD_some]) rfl hbin) E6 H6 (by simp [hB.sz, put_size]) ?_
    intro w8 M7 I7 hp7 le7 x7 H7 R7 E7
    have hw8 := R7.bool
    subst hw8
    generalize hA2 : (b.put (some 7) w7).put (some 8) (.bool bb) = A2 at E7
    have hA2s : A2.tmps.size = 19 := by rw [← hA2, put_size, put_size]; exact hB.sz
    have hA2d : A2.defers = [] := by rw [← hA2, put_defers', put_defers']; exact hB.df
    have hA20 : A2.eval (.tmp 0) = .func (.yield l) #[] #[] := by rw [← hA2, eval_put_ne (by decide), eval_put_ne (by decide)]; exact hB.t0
    have hA28 : A2.eval (.tmp 8) = .bool bb := by rw [← hA2]; exact eval_put (by rw [put_size, hB.sz]; decide)
    clear hA2
    show (Code.cond (.tmp 8) .skip (.exit 0)).wpIn _ _ _ _ _ _
    cases bb with
    | false =>
      simp only at hcase
      rw [hB.run] at hcase
      cases hcase
      refine wpIn_cond_false hA28 (wpIn_exit ?_)
      simp only [Exit.then, Exit.inBlock, if_true]
      refine ⟨hA2d, _, results_eq (us := []) (by rw [q3]; rfl), ⟨_, rfl⟩, M7, I7, rfl, hp7.wide (by show s.n + 1 + 1 ≤ s.n + 20; omega), H7, x7.oth _ _ (x6.oth _ _ hB.rc rfl) rfl, ?_, ?_⟩
      · show T.get (s.e.set 26 _) 4 = _
        rw [T.gn (by decide), hB.e4, k4]
      · show T.get (s.e.set 26 _) 2 = _
        rw [T.gn (by decide), hB.e2]
    | true =>
      obtain ⟨j, v27, v18, s4, s5, d28, rfl, hidx, hld, m4, m5, hd28, hnext⟩ := hcase
      refine wpIn_cond_true hA28 (wpIn_skip ?_)
      show Code.wpIn _ _ _ (.seq (.block 1 _) _) _ _ _
      refine wpIn_seq (wpIn_block (wpIn_seq (wp_range (l := [0, 1, 2, 3, 4, 5, 6, 7]) (by rw [hK.z3]; rfl) ?_)))
      -- yield's value is laid by
      obtain ⟨y1, y2, y3, y4⟩ := hK.c0
      have hmv : (execOp A2.eval o30).run P M7.w = .ok (.value (.func (.yield l) #[] #[])) M7.w := by simp only [execOp, y4, hA20]; rfl
      refine opsIn_val y1 y2 (by rw [y4]; simp) hmv ?_
      rw [y3]
      have E8 := E7.put (d := some 11) (v := .u) (u := .func (.yield l) #[] #[]) (N := 0) RV.undef (by simp [hA2s])
      generalize hA3 : A2.put (some 11) (.func (.yield l) #[] #[]) = A3 at E8
      have hA3s : A3.tmps.size = 19 := by rw [← hA3, put_size]; exact hA2s
      have hA3d : A3.defers = [] := by rw [← hA3, put_defers']; exact hA2d
      have hA30 : A3.eval (.tmp 0) = .func (.yield l) #[] #[] := by rw [← hA3, eval_put_ne (by decide)]; exact hA20
      have hA311 : A3.eval (.tmp 11) = .func (.yield l) #[] #[] := by rw [← hA3]; exact eval_put (by rw [hA2s]; decide)
      clear hA3
      generalize he8 : putE (putE (putE ((T.set .lf 1 (.pe [v15] 0)).set 3 v25) (some 7) v25) (some 8) (.d (.b true))) (some 11) AV.u = e8 at E8
      have e81 : e8.get 1 = some (.pe [v15] 0) := by rw [← he8]; simp [putE, T.get_set]
      have e83 : e8.get 3 = some v25 := by rw [← he8]; simp [putE, T.get_set]
      clear he8
      refine hp7.step hK.c1 (h := s.h) (h' := s.h) (v := v25) (by simp only [evOp, Opd.ev, e83, Option.getD_some]) E8 H7 (by simp [hA3s]) ?_
      intro u12 M9 I9 hp9 le9 x9 H9 R9 E9
      refine hp9.step hK.c2 (h' := s.h) (v := v15) (by simp [evOp, Opd.ev, putE, T.get_set, e81, loadA, loadC]) E9 H9 (by simp [hA3s, put_size]) ?_
      intro u13 M10 I10 hp10 le10 x10 H10 R10 E10
      refine hp10.step hK.c3 (h' := s.h) (v := v25) (by simp [evOp, Opd.ev, putE, T.get_set, e83]) E10 H10 (by simp [hA3s, put_size]) ?_
      intro u14 M11 I11 hp11 le11 x11 H11 R11 E11
      have hidx' : ∀ e k', T.get e 13 = some v15 → T.get e 14 = some v25 → evOp (.idxa 4 (.t 13) (.t 14)) e s.h k' = some (v27, s.h) := fun e k' g1 g2 => by
        rw [← hidx]
        refine idxa_congr ?_ ?_
        · simp [Opd.ev, g1, T.get_set, hB.e15]
        · simp [Opd.ev, g2, T.get_set, hB.e25]
      refine hp11.step hK.c4 (h' := s.h) (v := v27) (hidx' _ _ (by simp [putE, T.get_set]) (by simp [putE, T.get_set])) E11 H11 (by simp [hA3s, put_size]) ?_
      intro u15 M12 I12 hp12 le12 x12 H12 R12 E12
      refine hp12.step hK.c5 (h' := s.h) (v := v18) (by simp [evOp, Opd.ev, putE, T.get_set, hld]) E12 H12 (by simp [hA3s, put_size]) ?_
      intro u16 M13 I13 hp13 le13 x13 H13 R13 E13
      generalize hA4 : ((((A3.put (some 12) u12).put (some 13) u13).put (some 14) u14).put (some 15) u15).put (some 16) u16 = A4 at E13
      have hA4s : A4.tmps.size = 19 := by rw [← hA4]; simp only [put_size]; exact hA3s
      have hA4d : A4.defers = [] := by rw [← hA4]; simp only [put_defers']; exact hA3d
      have hA40 : A4.eval (.tmp 0) = .func (.yield l) #[] #[] := by rw [← hA4, eval_put_ne (by decide), eval_put_ne (by decide), eval_put_ne (by decide), eval_put_ne (by decide), eval_put_ne (by decide)]; exact hA30
      have hA411 : A4.eval (.tmp 11) = .func (.yield l) #[] #[] := by rw [← hA4, eval_put_ne (by decide), eval_put_ne (by decide), eval_put_ne (by decide), eval_put_ne (by decide), eval_put_ne (by decide)]; exact hA311
      have hA412 : A4.eval (.tmp 12) = u12 := by rw [← hA4, eval_put_ne (by decide), eval_put_ne (by decide), eval_put_ne (by decide), eval_put_ne (by decide)]; exact eval_put (by rw [hA3s]; decide)
      have hA416 : A4.eval (.tmp 16) = u16 := by rw [← hA4]; exact eval_put (by simp only [put_size]; rw [hA3s]; decide)
      clear hA4
      generalize he9 : putE (putE (putE (putE (putE e8 (some 12) v25) (some 13) v15) (some 14) v25) (some 15) v27) (some 16) v18 = e9 at E13
      have e91 : e9.get 1 = some (.pe [v15] 0) := by rw [← he9]; simp [putE, T.get_set, e81]
      have e93 : e9.get 3 = some v25 := by rw [← he9]; simp [putE, T.get_set, e83]
      clear he9
      -- yield
      have hrec13 : M13.w.heap[l]? = some (.loop rec) := x13.oth _ _ (x12.oth _ _ (x11.oth _ _ (x10.oth _ _ (x9.oth _ _ (x7.oth _ _ (x6.oth _ _ hB.rc rfl) rfl) rfl) rfl) rfl) rfl) rfl
      obtain ⟨g1, g2, g3, as, ts, g4, g5⟩ := hK.c6
      refine opsIn_at g1 g2 ⟨fun _ _ => trivial, ?_⟩
      rw [Oper.semAt_eq _ _ _ (by rw [g4]; simp)]
      have hcl : (execOp A4.eval o36).run P M13.w = .ok (.round l rec.fn ((rec.params.zip #[u12, u16]).foldl (fun tmps (t, a) => tmps.setIfInBounds t a) rec.tmps) rec.assign rec.body) M13.w := by
        have has2 : as = #[.tmp 12, .tmp 16] := by cases as; simp at g5; subst g5; rfl
        subst has2
        have hy := run_yield (P := P) (args := #[u12, u16]) hrec13 (by rw [hps]; rfl)
        simp only [execOp, g4, resolve, hA411, hA412, hA416, Deferred.ofValue, Sem.run_bind, Sem.run_pure, Result.andThen_ok, invoke]
        have harr : (#[] ++ Array.map A4.eval #[Operand.tmp 12, Operand.tmp 16] : Array Value) = #[u12, u16] := by simp [hA412, hA416]
        rw [harr]
        exact hy
      rw [hcl, Oper.uponIn_round]
      refine ⟨fun hs => by simp [Fence.wide] at hs, RoundIn.mono (bt_round (pu := pu) (C := callA F (ev F j)) hm (hC j (by omega)) (fun g args h n v h' n' => hpu j g args h n v h' n') h4 h5 z4 z5 d4 d5 m4 m5 (by simp [T.get_set, hB.e4]) T.gs hp13.gg H13 (fun x hx => hp13.new.free hp13.fr hp13.nn x (by omega)) hrec13 hst hpe hps has hbo (by rw [hp13.ext.lo]; exact hlo) (r4.ext hp13.ext hp13.le) R13 hN hN18) ?_⟩
      rintro e w' ⟨rfl, M14, I14, rfl, x14, le14, new14, n14, H14, rc14⟩
      show wpOpsIn Fence.wide m P i3 _ [7] (A4.put o36.dst (.bool true)) M14.w
      rw [g3]
      have hp14 : Pk G I M nb I14 M14 s5.n := ⟨hp13.ext.trans x14, hp13.le.trans le14, fun x hx => by
        rcases new14 x hx with h1 | h1
        · rcases hp13.new x h1 with h2 | h2
          · exact .inl h2
          · exact .inr (by omega)
        · have := hB.pk.nn
          exact .inr (by omega), hp13.fr, by have := hB.pk.nn; omega, hp13.g⟩
      have E14 := (E13.ext x14 le14).put (a := A4) (d := some 17) (N := 0) (RV.mkBool true) (by simp [hA4s])
      refine hp14.step hK.c7 (h' := s5.h) (v := .d (.b false)) (by simp [evOp, Opd.ev, putE, T.get_set, unA]) E14 H14 (by simp [hA4s, put_size]) ?_
      intro u18 M15 I15 hp15 le15 x15 H15 R15 E15
      have hu18 := R15.bool
      subst hu18
      generalize hA5 : (A4.put (some 17) (.bool true)).put (some 18) (.bool false) = A5 at E15
      have hA5s : A5.tmps.size = 19 := by rw [← hA5]; simp only [put_size]; exact hA4s
      have hA5d : A5.defers = [] := by rw [← hA5]; simp only [put_defers']; exact hA4d
      have hA50 : A5.eval (.tmp 0) = .func (.yield l) #[] #[] := by rw [← hA5, eval_put_ne (by decide), eval_put_ne (by decide)]; exact hA40
      have hA518 : A5.eval (.tmp 18) = .bool false := by rw [← hA5]; exact eval_put (by rw [put_size, hA4s]; decide)
      clear hA5
      generalize he15 : putE (putE e9 (some 17) (.d (.b true))) (some 18) (.d (.b false)) = e15 at E15
      have e151 : e15.get 1 = some (.pe [v15] 0) := by rw [← he15]; simp [putE, T.get_set, e91]
      have e153 : e15.get 3 = some v25 := by rw [← he15]; simp [putE, T.get_set, e93]
      clear he15
      show (Code.cond (.tmp 18) .ret .skip).wpIn _ _ _ _ _ _
      refine wpIn_cond_false hA518 (wpIn_skip ?_)
      show (Code.region j2 i2 false).wpIn _ _ _ _ _ _
      have ke : ∀ t, t ∉ dsts c4 → t ∉ dsts (c5 gc) → t ≠ 18 → t ≠ 27 → t ≠ 26 → s5.e.get t = s.e.get t := fun t h1 h2 h3 h4' h5' => by
        rw [evOps_keep (A := [4, 6]) (by simp [inA, c5, o1, COp.ts, Opd.ts, tsL, tsP2, tsP3, dl]) m5 t h2]
        show s4.e.get t = _
        rw [evOps_keep (A := [18]) (by decide) m4 t h1]
        simp [T.get_set, h3, h4', h5']
      have k25' : s5.e.get 25 = some v25 := by rw [ke 25 (by simp [dsts, c4, o1, dl]) (by simp [dsts, c5, o1, dl]) (by decide) (by decide) (by decide)]; exact hB.e25
      rw [k25', Option.getD_some] at hd28
      refine wp_range (l := [0, 1, 2]) (by rw [hK.z2]; rfl) ?_
      refine hp15.step hK.d0 (h' := s5.h) (v := v25) (by simp only [evOp, Opd.ev, e153, Option.getD_some]) E15 H15 (by simp [hA5s]) ?_
      intro u9 M16 I16 hp16 le16 x16 H16 R16 E16
      refine hp16.step hK.d1 (h' := s5.h) (v := .d d28) (bin_congr (by simp only [putE, Opd.ev, T.gs, Option.getD_some]) rfl hd28) E16 H16 (by simp [hA5s, put_size]) ?_
      intro u10 M17 I17 hp17 le17 x17 H17 R17 E17
      refine hp17.step hK.d2 (h' := s5.h) (v := .d d28) (by simp only [evOp, putE, Opd.ev, T.gs, Option.getD_some]) E17 H17 (by simp [hA5s, put_size]) ?_
      intro u3 M18 I18 hp18 le18 x18 H18 R18 E18
      refine ⟨j, by omega, by omega, _, M18, I18, .d d28, hnext.symm.trans hB.run, ?_, ?_, ?_, rfl, hp18.wide (by show _ ≤ s5.n + 10; omega), H18, ?_, T.gs, E18.two ?_ ?_, ?_, ?_, ?_⟩
      · simp only [T.get_set]
        rw [if_neg (by decide), if_neg (by decide), ke 15 (by simp [dsts, c4, o1, dl]) (by simp [dsts, c5, o1, dl]) (by decide) (by decide) (by decide)]; exact hB.e15
      · simp only [T.get_set]
        rw [if_neg (by decide), if_neg (by decide), ke 4 (by simp [dsts, c4, o1, dl]) (by simp [dsts, c5, o1, dl]) (by decide) (by decide) (by decide)]; exact hB.e4
      · simp only [T.get_set]
        rw [if_neg (by decide), if_neg (by decide), ke 2 (by simp [dsts, c4, o1, dl]) (by simp [dsts, c5, o1, dl]) (by decide) (by decide) (by decide)]; exact hB.e2
      · exact x18.oth _ _ (x17.oth _ _ (x16.oth _ _ (x15.oth _ _ rc14 rfl) rfl) rfl) rfl
      · simp [putE, T.get_set, e151]
      · simp [putE, T.get_set]
      · simp only [put_size]; exact hA5s
      · simp only [put_defers']; exact hA5d
      · rw [eval_put_ne (by decide), eval_put_ne (by decide), eval_put_ne (by decide)]; exact hA50
end
end Tm
/- dnf.BranchType: names that drop out, frozen boxes. No statement of the seat is proved here. -/
namespace Tm
open Go
set_option linter.unusedVariables false
set_option linter.unusedSimpArgs false
theorem T.fin {α : Type} : ∀ (t : T α), ∃ N, ∀ x, N ≤ x → t.get x = none
  | .lf => ⟨0, fun x _ => rfl⟩
  | .nd v l r => by
    obtain ⟨a, ha⟩ := T.fin l
    obtain ⟨b, hb⟩ := T.fin r
    refine ⟨2 * a + 2 * b + 4, fun x hx => ?_⟩
    have h0 : (x == 0) = false := by simp; omega
    simp only [T.get, h0, cond_false]
    cases h1 : x % 2 == 1 with
    | true => simp only [cond_true]; exact ha _ (by omega)
    | false => simp only [cond_false]; exact hb _ (by omega)
section
variable {I J : Inj} {M N : Mem}
mutual
theorem RVc.back (hI : Le I J) : ∀ (x : AV) (cs cs' : List Value), RVc I M x cs → RVc J N x cs' → RVc I N x cs'
  | .d x, _, _, _, r => by simp only [RVc] at r ⊢; exact r
  | .u, _, _, _, r => by simp only [RVc] at r
  | .tu _, _, _, _, r => by simp only [RVc] at r
  | .np, _, _, _, r => by simpa only [RVc] using r
  | .nm, _, _, _, r => by simpa only [RVc] using r
  | .nf, _, _, _, r => by simpa only [RVc] using r
  | .p a o, _, _, k, r => by
    simp only [RVc] at k r ⊢
    obtain ⟨q, h1, _⟩ := k
    obtain ⟨q', h2, h3⟩ := r
    rw [hI a q h1] at h2
    cases h2
    exact ⟨q, h1, h3⟩
  | .pe l o, _, _, k, r => by
    simp only [RVc] at r ⊢
    obtain ⟨b, o0, e, hb, hl, hr, hnf⟩ := r
    exact ⟨b, o0, e, hb, hl, RVs.anyI l _ hnf hr, hnf⟩
  | .zl l, _, _, _, r => by simp only [RVc] at r ⊢; exact r
  | .bs l, _, _, _, r => by simp only [RVc] at r ⊢; exact r
  | .sl a lo n, _, _, k, r => by
    simp only [RVc] at k r ⊢
    obtain ⟨q, A, h1, _⟩ := k
    obtain ⟨q', A', h2, h3⟩ := r
    rw [hI a q h1] at h2
    cases h2
    exact ⟨q, A', h1, h3⟩
  | .m a, _, _, k, r => by
    simp only [RVc] at k r ⊢
    obtain ⟨q, h1, _⟩ := k
    obtain ⟨q', h2, h3⟩ := r
    rw [hI a q h1] at h2
    cases h2
    exact ⟨q, h1, h3⟩
  | .mp ks vs, _, _, _, r => by
    simp only [RVc] at r ⊢
    obtain ⟨b, es, ck, e, hb, hm, hk, hv, hnf⟩ := r
    exact ⟨b, es, ck, e, hb, hm, hk, RVl.anyI _ _ hnf hv, hnf⟩
  | .f g fs cps, _, _, k, r => by
    simp only [RVc] at k r ⊢
    obtain ⟨a, b, e, h1, h2⟩ := k
    obtain ⟨a', b', e', h1', h2'⟩ := r
    exact ⟨a', b', e', RVl.back hI _ _ _ h1 h1', RVl.back hI _ _ _ h2 h2'⟩
  | .ag l, cs, cs', k, r => by
    simp only [RVc] at k r ⊢
    exact RVs.back hI l cs cs' k r
theorem RVs.back (hI : Le I J) : ∀ (l : List AV) (cs cs' : List Value), RVs I M l cs → RVs J N l cs' → RVs I N l cs'
  | [], _, _, _, r => by simpa only [RVs] using r
  | x :: l, cs, cs', k, r => by
    simp only [RVs] at k r ⊢
    obtain ⟨v, t, e, hn, hx, hl⟩ := k
    obtain ⟨v', t', e', hn', hx', hl'⟩ := r
    exact ⟨v', t', e', hn', RVc.back hI x _ _ hx hx', RVs.back hI l t t' hl hl'⟩
theorem RVl.back (hI : Le I J) : ∀ (l : List AV) (cs cs' : List Value), RVl I M l cs → RVl J N l cs' → RVl I N l cs'
  | [], _, _, _, r => by simpa only [RVl] using r
  | x :: l, cs, cs', k, r => by
    simp only [RVl] at k r ⊢
    obtain ⟨v, t, e, hx, hl⟩ := k
    obtain ⟨v', t', e', hx', hl'⟩ := r
    refine ⟨v', t', e', ?_, RVl.back hI l t t' hl hl'⟩
    rcases hx with hx | hx
    · exact .inl hx
    · rcases hx' with hx' | hx'
      · exact .inl hx'
      · exact .inr ⟨hx'.1, RVc.back hI x _ _ hx.2 hx'.2⟩
end
/-- Names that are no longer wanted drop out. -/
theorem RH.back {h : Heap} (hI : Le I J) (h1 : RH I M h) (h2 : RH J N h) : RH I N h := by
  refine ⟨h2.wf, h2.lo, fun a ob q k1 k2 => ?_, fun a a' ob ob' q q' g1 g2 g3 g4 g5 => h2.inj a a' ob ob' q q' g1 g2 (hI _ _ g3) (hI _ _ g4) g5, fun a ob q g1 g2 => h2.cp a ob q g1 (hI _ _ g2)⟩
  obtain ⟨x1, x2, x3⟩ := h1.ob a ob q k1 k2
  obtain ⟨y1, y2, y3⟩ := h2.ob a ob q k1 (hI a q k2)
  refine ⟨y1, y2, ?_⟩
  cases ob with
  | box l =>
    simp only [RO] at x3 y3 ⊢
    obtain ⟨c, e, g1, g2, g3, g4⟩ := x3
    obtain ⟨c', e', g1', g2', g3', g4'⟩ := y3
    exact ⟨c', e', g1', g2', RVs.back hI _ _ _ g3 g3', g4'⟩
  | row sz l z => simpa only [RO] using y3
  | map ks vs =>
    simp only [RO] at x3 y3 ⊢
    obtain ⟨c, e, g1, g2, g3, g4⟩ := x3
    obtain ⟨c', e', g1', g2', g3', g4'⟩ := y3
    exact ⟨c', e', g1', g2', RVl.back hI _ _ _ g3 g3', g4'⟩
/-- A box that is not written any more is frozen. -/
theorem freeze_box {h : Heap} {x : Nat} {v : AV} {q : Pl} (hH : RH J M (h.set x (.box [v]))) (hx : h.get x = none) (hq : J x = some q) (hn : nf v = true) :
    ∃ M', M'.w = M.w ∧ M'.lo = M.lo ∧ Ext M M' ∧ RH J M' h ∧ ∀ K : Inj, RV K M' (.pe [v] 0) (.pointer (some ⟨q.b, q.o, none⟩)) := by
  obtain ⟨g1, g2, g3⟩ := hH.ob x _ q T.gs' hq
  simp only [RO] at g3
  obtain ⟨c, e, h1, h2, h3, h4⟩ := g3
  have hc : cellsOf M.w q.b = c.toList := by unfold cellsOf; rw [h1]
  have hlen : c.toList.length = 1 := by
    simp only [RVs] at h3
    obtain ⟨u, r, e1, _, _, e2⟩ := h3
    rw [e1, e2]; rfl
  have hH' : RH J M h := hH.congr fun y ob _ hy => by
    rw [T.get_set]
    by_cases hyx : y = x
    · subst hyx; rw [hx] at hy; cases hy
    · rw [if_neg hyx]; exact hy
  let M' : Mem := ⟨M.w, fun b => if b = q.b then 1 else M.fz b, M.lo⟩
  have hx' : Ext M M' := ⟨rfl, rfl, rfl, rfl, Nat.le_refl _, fun _ _ => rfl, fun b => by
    show M.fz b ≤ if b = q.b then 1 else M.fz b
    by_cases hb : b = q.b
    · rw [if_pos hb, hb, h4]; omega
    · rw [if_neg hb]; exact Nat.le_refl _, fun b hb => by
    show (if b = q.b then 1 else M.fz b) = M.fz b
    rw [if_neg (by omega)], fun _ => rfl, fun _ _ h _ => h⟩
  refine ⟨M', rfl, rfl, hx', hH'.keep hx' (fun a ob q' ha hq' => ⟨rfl, ?_⟩) (fun b => ?_), fun K => RV.mk rfl ?_⟩
  · show (if q'.b = q.b then 1 else M.fz q'.b) = _
    have hne : a ≠ x := fun e => by subst e; rw [hx] at ha; cases ha
    rw [if_neg (hH.inj a x ob _ q' q (by rw [T.get_set, if_neg hne]; exact ha) T.gs' hq' hq hne)]
  · show (if b = q.b then 1 else M.fz b) ≤ (cellsOf M.w b).length
    by_cases hb : b = q.b
    · rw [if_pos hb, hb, hc, hlen]; exact Nat.le_refl _
    · rw [if_neg hb]; exact hH.wf b
  · simp only [RVc]
    refine ⟨q.b, 0, by rw [h2], .inr ?_, ?_, ?_, by simp [nfs, hn]⟩
    · show 0 + 1 ≤ if q.b = q.b then 1 else _
      rw [if_pos rfl]; exact Nat.le_refl _
    · show 0 + 1 ≤ (cellsOf M.w q.b).length
      rw [hc, hlen]; exact Nat.le_refl _
    · show RVs K M' [v] (((cellsOf M.w q.b).drop 0).take 1)
      rw [hc, List.drop_zero, List.take_of_length_le (by omega)]
      exact RVs.anyI _ _ (by simp [nfs, hn]) (h3.ext hx' (Le.refl J))
theorem putO_ext {l : Nat} {o o' : Obj} (h : Ext M N) (hl : M.w.heap.size ≤ l) (hlo : M.lo ≤ M.w.heap.size) (ho : N.w.heap[l]? = some o) (hr : isRec o = true) (hr' : isRec o' = true) : Ext M (N.putO l o') := by
  have hl1 := (Array.getElem?_eq_some_iff.1 ho).1
  have hn : ∀ b, b ≠ l → (N.putO l o').w.heap[b]? = N.w.heap[b]? := fun b hb => World.putObj_heap_other hb
  have hat : (N.putO l o').w.heap[l]? = some o' := World.putObj_heap_same hl1
  have hc : ∀ b, cellsOf (N.putO l o').w b = cellsOf N.w b := fun b => by
    by_cases hb : b = l
    · subst hb; rw [cellsOf_rec hat hr', cellsOf_rec ho hr]
    · unfold cellsOf; rw [hn b hb]
  refine ⟨h.lo, h.os, h.tape, h.out, ?_, fun b hb => (hn b (by omega)).trans (h.low b hb), h.fz, h.fzl, fun b => by rw [hc]; exact h.cells b, fun b o2 k1 k2 => ?_⟩
  · have := h.size; simp [Mem.putO, World.putObj]; exact this
  · have := (Array.getElem?_eq_some_iff.1 k1).1
    exact (hn b (by omega)).trans (h.oth b o2 k1 k2)
end
end Tm
/- dnf.BranchType: the whole function. No statement of the seat is proved here. -/
namespace Tm
open Go
set_option linter.unusedVariables false
set_option linter.unusedSimpArgs false
def cR : List (Nat × COper) := [(0, o1 (some 14) (.fld 0 (.t 1))), (1, o1 (some 15) (.load none (.t 14))), (2, o1 (some 29) (.bslice false [.sl []] 1 [(0, .t 15)])), (3, o1 (some 16) (.len false (.t 15))), (4, o1 (some 25) (.bin .sub 0 (.t 16) (.c (.d (.i .i64 (.ofNat 1))))))]
def c6 : List (Nat × COper) := [(0, o1 (some 24) (.load (some 4) (.t 4))), (1, o1 none (.store 4 (.t 2) (.t 24)))]
def cBk (gI : Nat) : CFun := ⟨[(.t 2, none)], .seq (.reg 2 [(0, o1 (some 1) (.box (.t 0))), (1, o1 (some 2) (.mv (.c .nf)))]) (.seq (.reg 2 [(0, o1 (some 3) (.mkf gI [] [.t 1])), (1, o1 (some 2) (.mv (.t 3)))]) .ret), false, false, false, false⟩
def cBt (n0 n1 n2 gc : Nat) (q0 q1 q2 : List (Nat × COper)) : CFun := ⟨[(.t 2, some (some 4))], .seq (.reg n0 q0) (.seq (.reg n1 q1) (.seq (.reg n2 q2) (.seq (.seq (.reg 30 cR) (.block 0 (.loop (LB gc)))) (.seq (.reg 2 c6) .ret)))), true, false, false, false⟩
section
variable {P : Program} {G : Nat → Option AV} {pu : Nat → Bool} {F : Nat → Option CFun} {I : Inj} {M : Mem} {a : Act}
theorem reg_seq' {k len : Nat} {ops : List (Nat × COper)} {b : CCode} {s : St} (h : ev F k (.seq (.reg len ops) b) s ≠ .bad) : ∃ s1 j, ev F k (.reg len ops) s = .nor s1 ∧ (∃ i, i + 1 ≤ k ∧ evOps (callA F (ev F i)) s.n ops ⟨s.e, s.h, s.n + len⟩ = some s1) ∧ j < k ∧ ev F k (.seq (.reg len ops) b) s = ev F j b s1 := by
  obtain ⟨j, rfl, h1, h2⟩ := ev_seq h
  obtain ⟨i, s1, rfl, h3, h4⟩ := ev_reg h1
  rcases h2 with ⟨s1', h5, h6⟩ | ⟨h5, _⟩
  · rw [h4] at h5; cases h5
    exact ⟨s1, i + 1, (ev_mono (show i + 1 ≤ i + 1 + 1 by omega) _ _ h1).trans h4, ⟨i, by omega, h3⟩, by omega, h6⟩
  · exact absurd h4 (h5 s1)
/-- A region of the program, by the machine. -/
theorem region_walk {k N id n : Nat} {ops : Array Oper} {d : Bool} {q : List (Nat × COper)} {s s1 : St} {K : Act → World → Prop} {Q : Exit → Act → World → Prop} (hcode : CodeOK P G pu F k) (hq : compReg P G pu N ops d = some q) (hev : ev F k (.reg ops.size q) s = .nor s1) (hS : SR G I M s a) (hN : N ≤ a.tmps.size) (hf : Free I s.n)
    (hn : ∀ a' w' I' M', Reach G I M s.n a s1 a' w' I' M' → K a' w') : (Code.region id ops d).wpIn Fence.wide n P (Exit.then K Q) a M.w := by
  refine wpIn_wide.2 (wp_mono (hcode N _ s (by rw [hev]; simp) (.region id ops d) (by simp only [comp, hq]) I M a hS hN hf) fun ex a' w' ho => ?_)
  rw [hev] at ho
  cases ex with
  | normal =>
    obtain ⟨I', M', hR⟩ := ho
    exact hn a' w' I' M' hR
  | _ => exact absurd ho (by simp [OutOK])
theorem evOps_has {C : CallF} {n0 : Nat} : ∀ {l : List (Nat × COper)} {A : List Nat} {s s' : St} {t : Nat}, inA A l = true → evOps C n0 l s = some s' → (t ∈ dsts l ∨ ∃ v, s.e.get t = some v) → ∃ v, s'.e.get t = some v
  | [], A, s, s', t, _, h, ht => by
    simp only [evOps, Option.some.injEq] at h
    subst h
    rcases ht with ht | ht
    · simp [dsts] at ht
    · exact ht
  | (i, o) :: l, A, s, s', t, hA, h, ht => by
    simp only [inA, Bool.and_eq_true, Option.isNone_iff_eq_none, List.isEmpty_iff, List.all_eq_true, List.contains_iff_mem] at hA
    obtain ⟨⟨⟨⟨a1, a2⟩, a3⟩, a4⟩, a5⟩ := hA
    obtain ⟨d, g, c, ck, di⟩ := o
    simp only at a1 a2 a3 a4 a5
    subst a1 a2 a3
    obtain ⟨v, h', n', ho, hf, hev⟩ := evOps_one h
    refine evOps_has a5 hev ?_
    simp only [dsts, List.mem_append] at ht
    cases d with
    | none =>
      rcases ht with (ht | ht) | ht
      · simp [dl] at ht
      · exact .inl ht
      · exact .inr ht
    | some d =>
      by_cases htd : t = d
      · subst htd; exact .inr ⟨v, T.gs⟩
      · rcases ht with (ht | ht) | ht
        · simp [dl] at ht; exact absurd ht htd
        · exact .inl ht
        · exact .inr (by simp only [putE]; rw [T.gn htd]; exact ht)
/-- The code of dnf.BranchType. -/
structure BtC (P : Program) (G : Nat → Option AV) (pu : Nat → Bool) (g gB gI gc N : Nat) (r0 r1 r2 r3 o4 o5 r6 : Array Oper) (q0 q1 q2 : List (Nat × COper)) : Prop where
  fn : ∃ f j0 j1 j2 j3 j4 j5 j6, P.funcs[g]? = some f ∧ (f.name == "runtime.NumGoroutine") = false ∧ f.ntmps = N ∧ compR P f.results.toList = some [(.t 2, some (some 4))] ∧
    f.body = some (.seq (.region j0 r0 false) (.seq (.region j1 r1 false) (.seq (.region j2 r2 false) (.seq (.seq (.region j3 r3 false) (.block 0 (.rangeFunc (.tmp 16) #[17, 18] (.region j4 o4 false) (.block 1 (.region j5 o5 true))))) (.seq (.region j6 r6 false) .ret)))))
  hN : 19 ≤ N
  p0 : compReg P G pu N r0 false = some q0
  p1 : compReg P G pu N r1 false = some q1
  p2 : compReg P G pu N r2 false = some q2
  p4 : compReg P G pu N o4 false = some c4
  p5 : compReg P G pu N o5 true = some (c5 gc)
  p6 : compReg P G pu N r6 false = some c6
  z3 : r3.size = 3
  z4 : o4.size = 2
  z5 : o5.size = 6
  z6 : r6.size = 2
  d4 : ∀ (i : Nat) o, o4[i]? = some o → noDef o = true
  d5 : ∀ (i : Nat) o, o5[i]? = some o → noDef o = true
  i0 : ∃ A, inA A q0 = true ∧ 2 ∈ dsts q0
  i1 : ∃ A, inA A q1 = true
  i2 : ∃ A, inA A q2 = true ∧ 4 ∈ dsts q2
  a0 : OpIs P G r3 0 (some 14) (.fld 0 (.t 1))
  a1 : OpIs P G r3 1 (some 15) (.load none (.t 14))
  a2 : ∃ o, r3[2]? = some o ∧ o.guard = none ∧ o.dst = some 16 ∧ compOp P G true o.op = some (.call gB [.t 15]) ∧ noDef o = true
  bk : FnOK P G (fun _ => false) gB (cBk gI)
/-- slices.Backward gives its closure. -/
theorem bk_call {gB gI : Nat} {Fb : Nat → Option CFun} (hF : Fb gB = some (cBk gI)) {v : AV} {h : Heap} {n : Nat} (hag : nAgV v = true) (hx : ∀ x, n ≤ x → h.get x = none) :
    callA Fb (ev Fb 6) gB [v] h n = some (.f gI [] [.p n 0], h.set n (.box [v]), n + 4) := by
  have hc : cellsV v = some [v] := by cases v with
    | d x => cases x <;> first | rfl | (simp [nAgV] at hag)
    | ag l => simp [nAgV] at hag
    | u => simp [nAgV] at hag
    | tu l => simp [nAgV] at hag
    | _ => rfl
  have seq : ∀ m x y s, ev Fb (m + 1) (.seq x y) s = (match ev Fb m x s with | .nor s => ev Fb m y s | r => r) := fun _ _ _ _ => rfl
  have reg : ∀ m len ops s, ev Fb (m + 1) (.reg len ops) s = (match evOps (callA Fb (ev Fb m)) s.n ops ⟨s.e, s.h, s.n + len⟩ with | some s => .nor s | none => .bad) := fun _ _ _ _ => rfl
  let e1 : Env := ((T.set .lf 0 v).set 1 (.p n 0)).set 2 .nf
  let e2 : Env := (e1.set 3 (.f gI [] [.p n 0])).set 2 (.f gI [] [.p n 0])
  have h1 : evOps (callA Fb (ev Fb 4)) n [(0, o1 (some 1) (.box (.t 0))), (1, o1 (some 2) (.mv (.c .nf)))] ⟨initE 0 [v] .lf, h, n + 2⟩ = some ⟨e1, h.set n (.box [v]), n + 2⟩ := by
    have b1 : doOp (callA Fb (ev Fb 4)) (.box (.t 0)) ⟨initE 0 [v] .lf, h, n + 2⟩ (n + 0) = some (.p n 0, h.set n (.box [v]), n + 2) := by
      have hv : (Opd.t 0).ev (initE 0 [v] .lf) = v := by simp [Opd.ev, initE, T.get_set]
      simp only [doOp, evOp, hv, hc, Nat.add_zero]
    rw [o1, evOps_mk b1 (by simp only [fresh, Nat.add_zero]; rw [hx n (Nat.le_refl _)]; rfl)]
    rw [o1, evOps_mk (v := .nf) (h' := h.set n (.box [v])) (n' := n + 2) rfl rfl]
    rfl
  have h2 : evOps (callA Fb (ev Fb 3)) (n + 2) [(0, o1 (some 3) (.mkf gI [] [.t 1])), (1, o1 (some 2) (.mv (.t 3)))] ⟨e1, h.set n (.box [v]), n + 2 + 2⟩ = some ⟨e2, h.set n (.box [v]), n + 4⟩ := by
    have b1 : doOp (callA Fb (ev Fb 3)) (.mkf gI [] [.t 1]) ⟨e1, h.set n (.box [v]), n + 2 + 2⟩ (n + 2 + 0) = some (.f gI [] [.p n 0], h.set n (.box [v]), n + 4) := by
      have hv : (Opd.t 1).ev e1 = .p n 0 := by simp [Opd.ev, e1, T.get_set]
      simp only [doOp, evOp, evs, hv]
      rfl
    rw [o1, evOps_mk b1 rfl]
    rw [o1, evOps_mk (v := .f gI [] [.p n 0]) (h' := h.set n (.box [v])) (n' := n + 4) (by simp [doOp, evOp, Opd.ev, putE, T.get_set]) rfl]
    rfl
  have hev : ev Fb 6 (cBk gI).body ⟨initE 0 [v] .lf, h, n⟩ = .rt ⟨e2, h.set n (.box [v]), n + 4⟩ := by
    show ev Fb 6 (.seq (.reg 2 _) (.seq (.reg 2 _) .ret)) _ = _
    rw [seq, reg, h1]
    simp only
    rw [seq, reg, h2]
    rfl
  unfold callA
  rw [hF]
  show (match ev Fb 6 (cBk gI).body ⟨initE 0 [v] .lf, h, n⟩ with | .nor s => leaveI (cBk gI) s | .rt s => leaveI (cBk gI) s | _ => none) = _
  rw [hev]
  simp [leaveI, cBk, resVs, resV, Opd.ev, e2, T.get_set, okV, tup]
end
end Tm
/- dnf.BranchType: the function's body answers what the machine's answers. No statement of the seat is proved here. -/
namespace Tm
open Go
set_option linter.unusedVariables false
set_option linter.unusedSimpArgs false
section
variable {P : Program} {G : Nat → Option AV} {pu : Nat → Bool} {F : Nat → Option CFun}
theorem reg_ev {k len : Nat} {ops : List (Nat × COper)} {s s1 : St} {i : Nat} (h : evOps (callA F (ev F i)) s.n ops ⟨s.e, s.h, s.n + len⟩ = some s1) (hi : i + 1 ≤ k) : ev F k (.reg len ops) s = .nor s1 := by
  have h1 : ev F (i + 1) (.reg len ops) s = .nor s1 := by
    show (match evOps (callA F (ev F i)) s.n ops ⟨s.e, s.h, s.n + len⟩ with | some s => Out.nor s | none => .bad) = _
    rw [h]
  rw [ev_mono hi _ _ (by rw [h1]; simp)]
  exact h1
theorem loop_ex {gc : Nat} : ∀ (k : Nat) (s : St), ev F k (.loop (LB gc)) s ≠ .bad → ∃ sf, ev F k (.loop (LB gc)) s = .ex 0 sf
  | 0, s, h => absurd rfl h
  | k + 1, s, h => by
    obtain ⟨b, h1, h2⟩ := lb_round h
    cases b with
    | false => exact ⟨_, h2⟩
    | true =>
      obtain ⟨j, _, _, _, _, _, hj, _, _, _, _, _, h3⟩ := h2
      have : j = k := by omega
      subst this
      rw [h3] at h ⊢
      exact loop_ex j _ h
theorem heap_rd {c : COp} {e : Env} {h h1 : Heap} {k : Nat} {v : AV} (hp : isRd c = true) (hc : evOp c e h k = some (v, h1)) : h1 = h := (read_grow hp hc).1
theorem doOp_ev' {C : CallF} {c : COp} {s : St} {k : Nat} {v : AV} {h' : Heap} {n' : Nat} (hc : isCall c = false) (h : doOp C c s k = some (v, h', n')) : evOp c s.e s.h k = some (v, h') ∧ n' = s.n := by
  have : doOp C c s k = (match evOp c s.e s.h k with
      | some (v, h) => some (v, h, s.n)
      | none => none) := by cases c <;> first | rfl | (simp [isCall] at hc)
  rw [this] at h
  split at h
  · rename_i v1 h1 hev
    simp only [Option.some.injEq, Prod.mk.injEq] at h
    obtain ⟨rfl, rfl, rfl⟩ := h
    exact ⟨hev, rfl⟩
  · cases h
theorem spec_bt {k g gB gI gc N : Nat} {r0 r1 r2 r3 o4 o5 r6 i0 i1 i2 i3 : Array Oper} {q0 q1 q2 : List (Nat × COper)} {o30 o36 : Oper} (hm : P.follows .mixedOrders = true) (hB : BtC P G pu g gB gI gc N r0 r1 r2 r3 o4 o5 r6 q0 q1 q2) (hK : ItC P G gI i0 i1 i2 i3 o30 o36)
    (hC : ∀ j, j < k → CallOK P G (callA F (ev F j))) (hcode : CodeOK P G pu F k) (hpu : ∀ j g args h n v h' n', pu g = true → callA F (ev F j) g args h n = some (v, h', n') → Soft n h h') :
    RunOK P G F k g (cBt r0.size r1.size r2.size gc q0 q1 q2) := by
  obtain ⟨f, j0, j1, j2, j3, j4, j5, j6, f1, f2, f3, f4, f5⟩ := hB.fn
  refine ⟨⟨f, f1, f2, by rw [f5]; rfl⟩, fun args h n s l _ hev hl I M vs hG hH hfr hA => ?_⟩
  have hN := hB.hN
  -- what the machine has done
  generalize hs0 : (⟨initE 0 args .lf, h, n⟩ : St) = s0 at hev
  have hs0n : s0.n = n := by rw [← hs0]
  have hnb : ev F k (cBt r0.size r1.size r2.size gc q0 q1 q2).body s0 ≠ .bad := by rcases hev with e | e <;> rw [e] <;> simp
  simp only [cBt] at hnb hev hl
  obtain ⟨s1, k1, m1, ⟨x1, z1, y1⟩, lt1, e1⟩ := reg_seq' hnb
  rw [e1] at hnb hev
  obtain ⟨s2, k2, m2, ⟨x2, z2, y2⟩, lt2, e2⟩ := reg_seq' hnb
  rw [e2] at hnb hev
  obtain ⟨s3, k3, m3, ⟨x3, z3, y3⟩, lt3, e3⟩ := reg_seq' hnb
  rw [e3] at hnb hev
  obtain ⟨k4, rfl, n4, r4⟩ := ev_seq hnb
  obtain ⟨s4, k5, m5, ⟨x5, z5, y5⟩, lt5, e5⟩ := reg_seq' n4
  -- the loop
  have n5 : ev F k5 (.block 0 (.loop (LB gc))) s4 ≠ .bad := by rw [← e5]; exact n4
  have hloop : ∃ kk sf, kk < k5 ∧ ev F kk (.loop (LB gc)) s4 = .ex 0 sf ∧ ev F k5 (.block 0 (.loop (LB gc))) s4 = .nor sf := by
    cases k5 with
    | zero => exact absurd rfl n5
    | succ kk =>
      have hev : ev F (kk + 1) (.block 0 (.loop (LB gc))) s4 = (match ev F kk (.loop (LB gc)) s4 with | .ex j s => (match j == 0 with | true => .nor s | false => .ex j s) | r => r) := rfl
      rw [hev] at n5
      obtain ⟨sf, hsf⟩ := loop_ex kk s4 (by intro e; rw [e] at n5; exact n5 rfl)
      exact ⟨kk, sf, by omega, hsf, by rw [hev, hsf]; rfl⟩
  obtain ⟨kk, sf, ltk, hrun, hblk⟩ := hloop
  rw [e5, hblk] at r4
  rcases r4 with ⟨s1', r5, r6'⟩ | ⟨r5, _⟩
  case inr => exact absurd rfl (r5 sf)
  cases r5
  rw [r6'] at hnb hev
  obtain ⟨s6, k6, m6, ⟨x6, z6, y6⟩, lt6, e6⟩ := reg_seq' hnb
  have hfin : s = s6 := by
    rw [e6] at hnb hev
    cases k6 with
    | zero => exact absurd rfl hnb
    | succ k6 =>
      rcases hev with hev | hev
      · cases hev
      · cases hev; rfl
  subst hfin
  -- the row ahead of the loop
  obtain ⟨v14, h14, n14, d14, _, y5⟩ := evOps_one y5
  obtain ⟨v15, h15, n15, d15, _, y5⟩ := evOps_one y5
  obtain ⟨v29, h29, n29, d29, _, y5⟩ := evOps_one y5
  obtain ⟨v16, h16, n16, d16, _, y5⟩ := evOps_one y5
  obtain ⟨v25, h25, n25, d25, _, y5⟩ := evOps_one y5
  simp only [evOps, Option.some.injEq] at y5
  obtain ⟨t14, rfl⟩ := doOp_ev' rfl d14
  obtain ⟨t15, rfl⟩ := doOp_ev' rfl d15
  obtain ⟨t29, rfl⟩ := doOp_ev' rfl d29
  obtain ⟨t16, rfl⟩ := doOp_ev' rfl d16
  obtain ⟨t25, rfl⟩ := doOp_ev' rfl d25
  obtain rfl := heap_rd rfl t14
  obtain rfl := heap_rd rfl t15
  obtain rfl := heap_rd rfl t29
  obtain rfl := heap_rd rfl t16
  obtain rfl := heap_rd rfl t25
  clear d14 d15 d29 d16 d25
  simp only [putE] at t15 t29 t16 t25 y5
  obtain ⟨d25', hb25, rfl, _⟩ := bin_ev t25
  simp only [Opd.ev, T.gs, Option.getD_some] at hb25
  have hv15 : nAgV v15 = true ∧ nf v15 = true := by
    have hx : (Opd.t 15).ev (((s3.e.set 14 v14).set 15 v15)) = v15 := by simp [Opd.ev, T.get_set]
    have hx2 : (Opd.t 15).ev ((((s3.e.set 14 v14).set 15 v15)).set 29 v29) = v15 := by simp [Opd.ev, T.get_set]
    simp only [evOp, fillD, hx] at t29
    simp only [evOp, hx2] at t16
    cases v15 with
    | d x => cases x <;> first | exact ⟨rfl, rfl⟩ | (exfalso; simp at t16; done)
    | zl l => exact ⟨rfl, rfl⟩
    | _ => first | (exfalso; simp at t16; done) | (exfalso; simp [valD, cellsV, allD] at t29; done)
  have hlen : ∃ L : Int, v16 = .d (.i .i64 L) ∧ ∀ (x : Opd) (e : Env) (h : Heap) (k : Nat), x.ev e = v15 → evOp (.len false x) e h k = some (.d (.i .i64 L), h) := by
    have hx : (Opd.t 15).ev ((((s3.e.set 14 v14).set 15 v15)).set 29 v29) = v15 := by simp [Opd.ev, T.get_set]
    simp only [evOp, hx] at t16
    cases v15 with
    | d x => cases x <;> first | (simp only [Option.some.injEq, Prod.mk.injEq, and_true] at t16; exact ⟨_, t16.symm, fun x e h k hx => by simp only [evOp, hx]⟩) | (simp at t16)
    | zl l => simp only [Option.some.injEq, Prod.mk.injEq, and_true] at t16; exact ⟨_, t16.symm, fun x e h k hx => by simp only [evOp, hx]⟩
    | bs l => simp only [Option.some.injEq, Prod.mk.injEq, and_true] at t16; exact ⟨_, t16.symm, fun x e h k hx => by simp only [evOp, hx]⟩
    | sl a b c => simp [nf] at hv15
    | _ => simp at t16
  obtain ⟨L, rfl, hlen⟩ := hlen
  -- the regions ahead
  rw [← f3] at hN
  refine callsIn_wide.1 (callsIn_of_wp_marks (F := Fence.wide) (n := 1) f1 f5 trivial ?_ rfl)
  have hsz : vs.toArray.size = vs.length := by simp
  generalize hA0 : ({ tmps := vs.toArray ++ Array.replicate (f.ntmps - vs.toArray.size) undef, defers := [] } : Act) = A0
  have hE0 : ER I M s0.e A0.tmps := by rw [← hA0, ← hs0]; exact initE_rel hA
  have hA0s : N ≤ A0.tmps.size := by rw [← hA0, ← f3]; simp; omega
  have hA0d : A0.defers = [] := by rw [← hA0]
  have hH0 : RH I M s0.h := by rw [← hs0]; exact hH
  have hf0 : Free I s0.n := by rw [hs0n]; exact hfr
  clear hA0
  refine wpIn_seq (region_walk hcode hB.p0 m1 ⟨hE0, hH0, hG⟩ hA0s hf0 fun A1 w1 I1 M1 R1 => ?_)
  have hw := R1.w; subst hw
  refine wpIn_seq (region_walk hcode hB.p1 (ev_mono (show k1 ≤ k by omega) _ _ (by rw [m2]; simp) ▸ m2) R1.sr (by rw [R1.sz]; exact hA0s) (R1.fresh hf0) fun A2 w2 I2 M2 R2 => ?_)
  have hw := R2.w; subst hw
  have R12 := R1.trans R2
  refine wpIn_seq (region_walk hcode hB.p2 (ev_mono (show k2 ≤ k by omega) _ _ (by rw [m3]; simp) ▸ m3) R2.sr (by rw [R12.sz]; exact hA0s) (R12.fresh hf0) fun A3 w3 I3 M3 R3 => ?_)
  have hw := R3.w; subst hw
  have R13 := R12.trans R3
  clear R1 R2 R3 R12
  have hA3s : N ≤ A3.tmps.size := by rw [R13.sz]; exact hA0s
  have hf3 : Free I3 s3.n := R13.fresh hf0
  -- the iterator's value
  refine wpIn_seq (wpIn_seq (wp_range (l := [0, 1, 2]) (by rw [hB.z3]; rfl) ?_))
  refine (Pk.start hf3 R13.sr.g).step hB.a0 t14 R13.sr.er R13.sr.rh (by rintro t ht; cases ht; omega) ?_
  intro u14 M4 I4 p4 le4 x4 H4 R4 E4
  refine p4.step hB.a1 (h := s3.h) (h' := s3.h) t15 E4 H4 (by rintro t ht; cases ht; rw [put_size]; omega) ?_
  intro u15 M5 I5 p5 le5 x5 H5 R5 E5
  generalize hA4 : (A3.put (some 14) u14).put (some 15) u15 = A4 at E5
  have hA4s : N ≤ A4.tmps.size := by rw [← hA4]; simp only [put_size]; exact hA3s
  have hA4d : A4.defers = [] := by rw [← hA4]; simp only [put_defers']; rw [R13.df]; exact hA0d
  clear hA4
  -- slices.Backward
  obtain ⟨o, g1, g2, g3, g4, g5⟩ := hB.a2
  obtain ⟨N0, hN0⟩ := T.fin s3.h
  let Fb : Nat → Option CFun := fun g => if g = gB then some (cBk gI) else none
  have hFb : Fb gB = some (cBk gI) := if_pos rfl
  have hCb : CallOK P G (callA Fb (ev Fb 6)) := (all_ok (pu := fun _ => false) hm (fun g h => by cases h) (fun g cf h => by
    simp only [Fb] at h
    split at h
    · rename_i hg; cases h; subst hg; exact .inl hB.bk
    · cases h) 6).2
  have hbig : Free I5 (max N0 (s3.n + 2)) := fun x hx => p5.new.free p5.fr p5.nn x (by omega)
  have hcall : doOp (callA Fb (ev Fb 6)) (.call gB [.t 15]) ⟨(s3.e.set 14 v14).set 15 v15, s3.h, max N0 (s3.n + 2)⟩ (max N0 (s3.n + 2)) = some (.f gI [] [.p (max N0 (s3.n + 2)) 0], s3.h.set (max N0 (s3.n + 2)) (.box [v15]), max N0 (s3.n + 2) + 4) := by
    have : evs ((s3.e.set 14 v14).set 15 v15) [.t 15] = [v15] := by simp [evs, Opd.ev, T.get_set]
    show callA Fb (ev Fb 6) gB (evs ((s3.e.set 14 v14).set 15 v15) [.t 15]) s3.h (max N0 (s3.n + 2)) = _
    rw [this]
    exact bk_call hFb hv15.1 fun x hx => hN0 x (by omega)
  refine opsIn_at g1 g2 (upon_round (ro := none) (noDef_ne g5) (sim_doOp (s := ⟨(s3.e.set 14 v14).set 15 v15, s3.h, max N0 (s3.n + 2)⟩) hCb ⟨E5, H5, p5.gg⟩ (hbig _ (Nat.le_refl _)) hbig g4 hcall fun u16 w6 hpost => ?_))
  obtain ⟨M6, I6, rfl, x6, le6, _, _, H6, R6⟩ := hpost
  rw [g3]
  obtain ⟨bx, by', hu16, hbx, hby⟩ := R6.fn
  have hbx0 : bx = #[] := by
    have : bx.toList = [] := by simpa only [RVl] using hbx
    exact Array.toList_eq_nil_iff.1 this
  have hby0 : ∃ q, by' = #[.pointer (some ⟨q.b, q.o, none⟩)] ∧ I6 (max N0 (s3.n + 2)) = some q := by
    simp only [RVl] at hby
    obtain ⟨v, r, e1, hv, e2⟩ := hby
    subst e2
    rcases hv with hv | hv
    · cases hv
    · have h2 : RV1 I6 M6 (.p (max N0 (s3.n + 2)) 0) v := .inr hv
      obtain ⟨q, hq, rfl⟩ := h2.toRV.ptr
      exact ⟨q, Array.toList_inj.1 (by simpa using e1), hq⟩
  obtain ⟨q, rfl, hq⟩ := hby0
  subst hbx0
  have hfree : s3.h.get (max N0 (s3.n + 2)) = none := hN0 _ (by omega)
  obtain ⟨M7, w7, lo7, x7, H7, R7⟩ := freeze_box H6 hfree hq hv15.2
  have H7' : RH I5 M7 s3.h := RH.back le6 H5 H7
  have x57 : Ext M5 M7 := x6.trans x7
  have p7 : Pk G I3 M3 s3.n I5 M7 (s3.n + 1 + 1) := ⟨p5.ext.trans x57, p5.le, p5.new, p5.fr, p5.nn, p5.g⟩
  have E7 : ER I5 M7 ((s3.e.set 14 v14).set 15 v15) A4.tmps := E5.ext x57 (Le.refl I5)
  rw [← w7]
  generalize hA5 : A4.put (some 16) u16 = A5
  have hA5s : N ≤ A5.tmps.size := by rw [← hA5]; simp only [put_size]; exact hA4s
  have hA5d : A5.defers = [] := by rw [← hA5]; simp only [put_defers']; exact hA4d
  have hA516 : A5.eval (.tmp 16) = .func (.func gI) #[] #[.pointer (some ⟨q.b, q.o, none⟩)] := by rw [← hA5, ← hu16]; exact eval_put (by omega)
  have hA5t : ∀ t, t ≠ 16 → A5.tmps.getD t undef = A4.tmps.getD t undef := fun t ht => by rw [eval_getD, eval_getD, ← hA5]; exact eval_put_ne (Ne.symm ht)
  clear hA5
  show Code.wpIn _ _ _ (.block 0 _) _ _ _
  -- the statement
  obtain ⟨v4, k4⟩ := evOps_has (t := 4) hB.i2.choose_spec.1 y3 (.inl hB.i2.choose_spec.2)
  have k21 := evOps_has (t := 2) hB.i0.choose_spec.1 y1 (.inl hB.i0.choose_spec.2)
  have k22 := evOps_has (t := 2) hB.i1.choose_spec y2 (.inr k21)
  obtain ⟨v2, k2'⟩ := evOps_has (t := 2) hB.i2.choose_spec.1 y3 (.inr k22)
  have r4 : RV I5 M7 v4 (A5.tmps.getD 4 undef) := by
    have := E7 4
    simp only [T.get_set, k4] at this
    rw [hA5t 4 (by decide)]; exact this
  have r2 : RV I5 M7 v2 (A5.tmps.getD 2 undef) := by
    have := E7 2
    simp only [T.get_set, k2'] at this
    rw [hA5t 2 (by decide)]; exact this
  refine wpIn_block (wpIn_rangeFunc fun fn _ => ?_)
  generalize hrec : ({ state := .ready, pending := none, fn, tmps := A5.tmps, params := #[17, 18], assign := .region j4 o4 false, body := .block 1 (.region j5 o5 true), defers := M7.w.heap.size } : Loop) = rec
  have hD7 := push_at (M := M7) (ob := .deferred (some [])) (n := 0)
  have hx8 : Ext M7 ((M7.push (.deferred (some [])) 0).push (.loop rec) 0) := (push_ext H7'.wf H7'.lo (.deferred (some [])) 0).trans (push_ext (H7'.push (.deferred (some [])) 0 (Nat.zero_le _)).wf (H7'.push (.deferred (some [])) 0 (Nat.zero_le _)).lo (.loop rec) 0)
  have hH8 := (H7'.push (.deferred (some [])) 0 (Nat.zero_le _)).push (.loop rec) 0 (Nat.zero_le _)
  have hl8 := push_at (M := M7.push (.deferred (some [])) 0) (ob := .loop rec) (n := 0)
  have hs7 : (M7.push (.deferred (some [])) 0).w.heap.size = M7.w.heap.size + 1 := by simp [Mem.push]
  rw [hs7] at hl8
  have hD8 : ((M7.push (.deferred (some [])) 0).push (.loop rec) 0).w.heap[M7.w.heap.size]? = some (.deferred (some [])) := (push_ext (H7'.push (.deferred (some [])) 0 (Nat.zero_le _)).wf (H7'.push (.deferred (some [])) 0 (Nat.zero_le _)).lo (.loop rec) 0).oth _ _ hD7 rfl
  have hent : (Instr.enterLoop fn A5.tmps #[17, 18] (.region j4 o4 false) (.block 1 (.region j5 o5 true)) none).run P M7.w = .ok (M7.w.heap.size + 1, [{ target := .collected M7.w.heap.size, args := #[] }]) ((M7.push (.deferred (some [])) 0).push (.loop rec) 0).w := by
    rw [← hrec]; exact run_enterLoop_outer _ _ _ _ _
  have hrec1 : rec.state = .ready ∧ rec.pending = none ∧ rec.params = #[17, 18] ∧ rec.assign = .region j4 o4 false ∧ rec.body = .block 1 (.region j5 o5 true) ∧ rec.tmps = A5.tmps := by rw [← hrec]; exact ⟨rfl, rfl, rfl, rfl, rfl, rfl⟩
  have hlo8 : ((M7.push (.deferred (some [])) 0).push (.loop rec) 0).lo = M7.lo := rfl
  have hlo7 := H7'.lo
  have hsz8 : M7.w.heap.size ≤ ((M7.push (.deferred (some [])) 0).push (.loop rec) 0).w.heap.size := hx8.size
  clear hrec
  generalize (M7.push (.deferred (some [])) 0).push (.loop rec) 0 = M8 at *
  obtain ⟨hr1, hr2, hr3, hr4, hr5, hr6⟩ := hrec1
  obtain ⟨fI, jj0, jj1, jj2, jj3, hI1, hI2, hI3, hI4, hI5⟩ := hK.fn
  refine ⟨M7.w.heap.size + 1, [{ target := .collected M7.w.heap.size, args := #[] }], M8.w, { target := .fn (.func gI) #[.pointer (some ⟨q.b, q.o, none⟩)], args := #[.func (.yield (M7.w.heap.size + 1)) #[] #[]] }, M8.w, gI, #[.func (.yield (M7.w.heap.size + 1)) #[] #[], .pointer (some ⟨q.b, q.o, none⟩)], M8.w, hent, ?_, fun _ _ => trivial, ?_, fun h => by simp [Fence.wide] at h, ?_⟩
  · simp only [resolve, hA516, Deferred.ofValue, Sem.run_bind, Sem.run_pure, Result.andThen_ok]
    simp [Act.eval]
  · simp only [invoke]
    rw [run_callFunc ⟨fI, hI1, hI2, by rw [hI5]; rfl⟩]
    rfl
  have r1 : RV I5 M8 (.pe [v15] 0) (.pointer (some ⟨q.b, q.o, none⟩)) := (R7 I5).ext hx8 (Le.refl I5)
  have hG7 : GOk G M7 := p7.gg
  have y5' : s4 = ⟨((((s3.e.set 14 v14).set 15 v15).set 29 v29).set 16 (.d (.i .i64 L))).set 25 (.d d25'), s3.h, s3.n + 30⟩ := y5.symm
  have hH8' : RH I5 M8 s4.h := by rw [y5']; exact hH8
  have hs4n : s4.n = s3.n + 30 := by rw [y5']
  refine CallsIn.mono (bt_iter (pu := pu) (nb := s3.n + 1 + 1) (m := 1 - 1) (kk := kk) hm (fun j hj => hC j (by omega)) hpu hB.p4 hB.p5 hB.z4 hB.z5 hB.d4 hB.d5 hK hrun (v15 := v15) (v4 := v4) (d25 := d25') (L := L) ?_ ?_ ?_ hv15.2 hv15.1 hlen hb25 (hG7.ext hx8) hH8' (p7.new.free p7.fr p7.nn) (by rw [hs4n]; omega) hl8 hr1 hr2 hr3 hr4 hr5 (by rw [hlo8]; omega) (by rw [hr6]; exact r4.ext hx8 (Le.refl I5)) (by rw [hr6]; exact hA5s) (by rw [hr6]; omega) r1) ?_
  · rw [y5']; simp [T.get_set]
  · rw [y5']; simp [T.get_set, k4]
  · rw [y5']; simp [T.get_set]
  rintro e w' ⟨⟨v, rfl⟩, M9, I9, rfl, p9, H9, rc9, g4', g2'⟩
  have hD9 := p9.ext.oth _ _ hD8 rfl
  refine ⟨none, _, by rw [run_endLoop rc9 (by rw [hr1]; simp), hr2], ?_⟩
  have hpo := putO_rel (o' := .loop { rec with state := .exhausted, pending := none }) H9 rc9 rfl rfl (by rw [p9.ext.lo, hlo8]; omega)
  have x79 : Ext M7 M9 := hx8.trans p9.ext
  have x710 : Ext M7 (M9.putO (M7.w.heap.size + 1) (.loop { rec with state := .exhausted, pending := none })) := putO_ext x79 (by omega) hlo7 rc9 rfl rfl
  have hD10 : (M9.putO (M7.w.heap.size + 1) (.loop { rec with state := .exhausted, pending := none })).w.heap[M7.w.heap.size]? = some (.deferred (some [])) := (World.putObj_heap_other (by omega)).trans hD9
  have hXW : ExtW M9 (M9.putO (M7.w.heap.size + 1) (.loop { rec with state := .exhausted, pending := none })) := ⟨rfl, hpo.2.1, fun _ => Nat.le_refl _, fun b => by rw [hpo.2.2.1]⟩
  show Code.wpIn _ _ _ (.seq _ .ret) _ _ (M9.putO (M7.w.heap.size + 1) (.loop { rec with state := .exhausted, pending := none })).w
  have hk2 : sf.e.get 2 = some v2 := by rw [g2', y5']; simp [T.get_set, k2']
  have hk4 : sf.e.get 4 = some v4 := by rw [g4', y5']; simp [T.get_set, k4]
  generalize M9.putO (M7.w.heap.size + 1) (.loop { rec with state := .exhausted, pending := none }) = M10 at *
  obtain ⟨hH10, _, _, _⟩ := hpo
  let e' : Env := (T.set .lf 2 v2).set 4 v4
  obtain ⟨e7, pp1, pp2, pp3⟩ := evOps_part (A := [2, 4]) (e' := e') (by decide) (fun t ht => by
    simp only [List.mem_cons, List.not_mem_nil, or_false] at ht
    rcases ht with rfl | rfl
    · rw [hk2]; simp [e', T.get_set]
    · rw [hk4]; simp [e', T.get_set]) y6
  have hE10 : ER I9 M10 e' A5.tmps := fun t => by
    simp only [e', T.get_set]
    by_cases h4 : t = 4
    · subst h4; rw [if_pos rfl, Option.getD_some]; exact ((r4.ext hx8 (Le.refl I5)).ext p9.ext p9.le).extW hXW (Le.refl I9)
    · rw [if_neg h4]
      by_cases h2 : t = 2
      · subst h2; rw [if_pos rfl, Option.getD_some]; exact ((r2.ext hx8 (Le.refl I5)).ext p9.ext p9.le).extW hXW (Le.refl I9)
      · rw [if_neg h2]; exact RV.undef
  have hG10 : GOk G M10 := fun g av hg => ⟨((hG7.ext x79) g av hg).1, fun J => (((hG7.ext x79) g av hg).2 J).extW hXW (Le.refl J)⟩
  have hf10 : Free I9 sf.n := p9.new.free p9.fr p9.nn
  refine wpIn_seq (region_walk (a := { tmps := A5.tmps, defers := [{ target := .collected M7.w.heap.size, args := #[] }] ++ A5.defers }) (s := ⟨e', sf.h, sf.n⟩) (s1 := ⟨e7, s.h, s.n⟩) hcode hB.p6 (by rw [hB.z6]; exact reg_ev pp1 (by omega)) ⟨hE10, hH10, hG10⟩ hA5s hf10 fun A7 w11 I11 M11 R11 => ?_)
  have hw := R11.w; subst hw
  refine wpIn_ret ?_
  have hA7d : A7.defers = [{ target := .collected M7.w.heap.size, args := #[] }] := by rw [R11.df]; show _ ++ A5.defers = _; rw [hA5d]; rfl
  show LeavesInM Fence.wide 1 P f A7.tmps _ A7.defers .returning M11.w
  rw [hA7d]
  have hD11 := R11.ext.oth _ _ hD10 rfl
  have hlo11 : M11.lo ≤ M7.w.heap.size := by rw [R11.ext.lo, x710.lo]; exact hlo7
  have hpo2 := putO_rel (o' := .deferred none) R11.sr.rh hD11 rfl rfl hlo11
  have x712 : Ext M7 (M11.putO M7.w.heap.size (.deferred none)) := putO_ext (x710.trans R11.ext) (Nat.le_refl _) hlo7 hD11 rfl rfl
  have hXW2 : ExtW M11 (M11.putO M7.w.heap.size (.deferred none)) := ⟨rfl, hpo2.2.1, fun _ => Nat.le_refl _, fun b => by rw [hpo2.2.2.1]⟩
  refine ⟨by simp, .inl ⟨M7.w.heap.size, _, rfl, run_takeDeferred hD11, ?_⟩⟩
  have hl' : resVs e7 [(.t 2, some (some 4))] s.h = some l := by
    rw [← hl]
    have : T.get e7 2 = s.e.get 2 := (pp2 2 (.inl (by simp))).symm
    simp [resVs, resV, Opd.ev, this]
  obtain ⟨us, hu1, hu2⟩ := results_rel (M := M11.putO M7.w.heap.size (.deferred none)) hpo2.1 (fun t => (R11.sr.er t).extW hXW2 (Le.refl I11)) f4 hl'
  refine ⟨_, results_eq hu1, us, M11.putO M7.w.heap.size (.deferred none), I11, rfl, rfl, (R13.ext.trans p7.ext).trans x712, R13.le.trans (p7.le.trans (p9.le.trans R11.le)), fun x hx => ?_, ?_, hpo2.1, hu2⟩
  · have a1 := R13.n
    have a2 := p9.nn
    have a3 : sf.n ≤ s.n := R11.n
    rw [hs0n] at a1
    rcases R11.new x hx with h1 | h1
    · rcases p9.new x h1 with h2 | h2
      · rcases p7.new x h2 with h3 | h3
        · rcases R13.new x h3 with h4 | h4
          · exact .inl h4
          · exact .inr (by omega)
        · exact .inr (by omega)
      · exact .inr (by omega)
    · exact .inr ⟨by have : sf.n ≤ x := h1.1; omega, h1.2⟩
  · have a1 := R13.n
    have a2 := p9.nn
    have a3 : sf.n ≤ s.n := R11.n
    rw [hs0n] at a1
    omega
end
end Tm
