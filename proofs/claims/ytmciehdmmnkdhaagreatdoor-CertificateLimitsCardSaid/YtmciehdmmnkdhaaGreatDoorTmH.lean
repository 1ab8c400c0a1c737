/- The abstract machine on trees, part H. No statement of the seat is proved here. -/
import Derived.Below
import Derived.Test.YtmciehdmmnkdhaaGreatDoorTmG
set_option linter.unusedVariables false
set_option linter.unusedSimpArgs false
set_option linter.constructorNameAsVariable false
set_option linter.unusedSectionVars false
set_option linter.deprecated false
set_option linter.unnecessarySimpa false
/- The machine with the results of pure calls from a tape. No statement of the seat is proved here. -/
namespace Tm
open Go
set_option linter.unusedVariables false
set_option linter.unusedSimpArgs false
inductive PR where
  | v (x : AV) | row (sz : Nat) (r : List D) (lo m : Nat)
def prsO : List AV → Heap → Option (List PR)
  | [], _ => some []
  | .sl a lo m :: l, h => (match h.get a with
    | some (.row sz r false) => (match prsO l (h.del a) with
      | some t => some (.row sz r lo m :: t)
      | none => none)
    | _ => none)
  | v :: l, h => (match outS v with
    | some v => (match prsO l h with
      | some t => some (.v v :: t)
      | none => none)
    | none => none)
def lay : List PR → Heap → Nat → R2
  | [], h, n => some ([], h, n)
  | .row sz r lo m :: l, h, n => (match h.get n with
    | some _ => none
    | none => (match lay l (h.set n (.row sz r false)) (n + 1) with
      | some (l, h, k) => some (.sl n lo m :: l, h, k)
      | none => none))
  | .v x :: l, h, n => (match lay l h n with
    | some (l, h, k) => some (x :: l, h, k)
    | none => none)
theorem outsO_eq : ∀ {l : List AV} {hc h0 : Heap} {n : Nat} {p : List PR}, prsO l hc = some p → outsO l hc h0 n = lay p h0 n
  | [], hc, h0, n, p, hp => by
    simp only [prsO, Option.some.injEq] at hp
    subst hp
    rfl
  | v :: l, hc, h0, n, p, hp => by
    cases hv : v with
    | sl a lo m =>
      subst hv
      simp only [prsO] at hp
      split at hp
      · rename_i sz r hob
        split at hp
        · rename_i t ht
          simp only [Option.some.injEq] at hp
          subst hp
          simp only [outsO, hob, lay]
          cases h0.get n with
          | some _ => rfl
          | none =>
            simp only [outsO_eq ht]
            cases lay t (h0.set n (.row sz r false)) (n + 1) <;> rfl
        · cases hp
      · cases hp
    | _ =>
      subst hv
      simp only [prsO] at hp
      split at hp
      · rename_i v' h1
        split at hp
        · rename_i t ht
          simp only [Option.some.injEq] at hp
          subst hp
          simp only [outsO, h1, lay, outsO_eq ht]
          cases lay t h0 n <;> rfl
        · cases hp
      · cases hp
theorem lay_v : ∀ (l : List AV) (h : Heap) (n : Nat), lay (l.map .v) h n = some (l, h, n)
  | [], h, n => rfl
  | x :: l, h, n => by simp only [List.map_cons, lay, lay_v l h n]
def prsOf (cf : CFun) (s : St) : Option (List PR) :=
  match resVs s.e cf.results s.h with
  | some l => (match cf.own with
    | true => prsO l s.h
    | false => (match outsD l s.h with
      | some (l, _) => some (l.map .v)
      | none => none))
  | none => none
/-- What a pure function answers. -/
def runP (F : Nat → Option CFun) (self : Self) (g : Nat) (as : List AV) : Option (List PR) :=
  match F g with
  | none => none
  | some cf => (match cf.pure with
    | false => none
    | true => (match self cf.body ⟨initE 0 as .lf, .lf, 0⟩ with
      | .nor s => prsOf cf s
      | .rt s => prsOf cf s
      | _ => none))
theorem leaveP_eq {cf : CFun} {h0 : Heap} {n0 : Nat} {s : St} {p : List PR} (hp : prsOf cf s = some p) : leaveP cf h0 n0 s = (match lay p h0 n0 with
    | some (l, h, n) => some (tup l, h, n)
    | none => none) := by
  unfold prsOf at hp
  unfold leaveP
  split at hp
  · rename_i l hl
    rw [hl]
    simp only
    split at hp
    · rename_i ho
      rw [ho]
      simp only [outsO_eq hp]
      cases lay p h0 n0 <;> rfl
    · rename_i ho
      rw [ho]
      simp only
      split at hp
      · rename_i l' h' hd
        simp only [Option.some.injEq] at hp
        subst hp
        rw [hd, lay_v]
      · cases hp
  · cases hp
theorem callA_run {F : Nat → Option CFun} {self : Self} {g : Nat} {cf : CFun} {args as : List AV} {h h2 : Heap} {n : Nat} {p : List PR} (hF : F g = some cf) (hpu : cf.pure = true) (ha : argsD cf.bor args h = some (as, h2)) (hr : runP F self g as = some p) : callA F self g args h n = (match lay p h2 n with
    | some (l, h, n) => some (tup l, h, n)
    | none => none) := by
  unfold runP at hr
  unfold callA
  simp only [hF, hpu, ha] at hr ⊢
  cases hs : self cf.body ⟨initE 0 as .lf, .lf, 0⟩ with
  | nor s => rw [hs] at hr; exact leaveP_eq hr
  | rt s => rw [hs] at hr; exact leaveP_eq hr
  | _ => rw [hs] at hr; cases hr
theorem runP_mono {F : Nat → Option CFun} {a b : Self} (h : Sub a b) {g : Nat} {as : List AV} {p : List PR} (hr : runP F a g as = some p) : runP F b g as = some p := by
  unfold runP at hr ⊢
  cases hF : F g with
  | none => simp [hF] at hr
  | some cf =>
    simp only [hF] at hr ⊢
    cases hp : cf.pure with
    | false => simp [hp] at hr
    | true =>
      simp only [hp] at hr ⊢
      have hne : a cf.body ⟨initE 0 as .lf, .lf, 0⟩ ≠ .bad := by intro e; rw [e] at hr; simp at hr
      rw [h _ _ hne]; exact hr
/-- A fact about a pure call. -/
def Fact (F : Nat → Option CFun) (g : Nat) (as : List AV) (p : List PR) : Prop := ∃ K, runP F (ev F K) g as = some p
/-! ### The evaluator -/
abbrev Tp := List (List PR)
abbrev Lg := List (Nat × List AV)
inductive OutT where
  | nor (s : St) (t : Tp) (l : Lg) | ex (id : Nat) (s : St) (t : Tp) (l : Lg) | rt (s : St) (t : Tp) (l : Lg) | bad
abbrev SelfT := CCode → St → Tp → Lg → OutT
abbrev RT := Option (AV × Heap × Nat × Tp × Lg)
def callT (F : Nat → Option CFun) (self : SelfT) (g : Nat) (args : List AV) (h : Heap) (n : Nat) (t : Tp) (lg : Lg) : RT :=
  match F g with
  | none => none
  | some cf => (match cf.pure with
    | true => (match argsD cf.bor args h with
      | some (as, h) => (match t with
        | p :: t => (match lay p h n with
          | some (l, h, n) => some (tup l, h, n, t, (g, as) :: lg)
          | none => none)
        | [] => none)
      | none => none)
    | false => (match arOK cf args with
      | false => none
      | true => (match self cf.body ⟨initE 0 args .lf, h, n⟩ t lg with
        | .nor s t lg => (match leaveI cf s with
          | some (v, h, n) => some (v, h, n, t, lg)
          | none => none)
        | .rt s t lg => (match leaveI cf s with
          | some (v, h, n) => some (v, h, n, t, lg)
          | none => none)
        | _ => none)))
def doOpT (F : Nat → Option CFun) (self : SelfT) (o : COp) (s : St) (k : Nat) (t : Tp) (lg : Lg) : RT :=
  match o with
  | .call g args => callT F self g (evs s.e args) s.h s.n t lg
  | .callv x args => (match x.ev s.e with
    | .f g fs caps => callT F self g (fs ++ evs s.e args ++ caps) s.h s.n t lg
    | _ => none)
  | o => (match evOp o s.e s.h k with
    | some (v, h) => some (v, h, s.n, t, lg)
    | none => none)
def evOpsT (F : Nat → Option CFun) (self : SelfT) (n0 : Nat) : List (Nat × COper) → St → Tp → Lg → Option (St × Tp × Lg)
  | [], s, t, lg => some (s, t, lg)
  | (i, o) :: l, s, t, lg => match wants s.e o.guard with
    | none => none
    | some true => (match doOpT F self o.op s (n0 + i) t lg with
      | some (v, h, n, t, lg) => (match fresh s.h (n0 + i) o.op && o.chk.all (again n0 ⟨putE s.e o.dst v, h, n⟩) && apart s.e o with
        | true => evOpsT F self n0 l ⟨putE s.e o.dst v, h, n⟩ t lg
        | false => none)
      | none => none)
    | some false => evOpsT F self n0 l ⟨putE s.e o.dst (.tu []), s.h, s.n⟩ t lg
def stepT (F : Nat → Option CFun) (self : SelfT) : SelfT := fun c s t lg =>
  match c with
  | .skip => .nor s t lg
  | .reg len ops => (match evOpsT F self s.n ops ⟨s.e, s.h, s.n + len⟩ t lg with | some (s, t, lg) => .nor s t lg | none => .bad)
  | .seq a b => (match self a s t lg with | .nor s t lg => self b s t lg | r => r)
  | .cond c a b => (match c.ev s.e with | .d (.b true) => self a s t lg | .d (.b false) => self b s t lg | _ => .bad)
  | .block id b => (match self b s t lg with | .ex j s t lg => (match j == id with | true => .nor s t lg | false => .ex j s t lg) | r => r)
  | .loop b => (match self b s t lg with | .nor s t lg => self (.loop b) s t lg | r => r)
  | .exit id => .ex id s t lg
  | .ret => .rt s t lg
  | .bad => .bad
def evT (F : Nat → Option CFun) : Nat → SelfT
  | 0 => fun _ _ _ _ => .bad
  | k + 1 => stepT F (evT F k)
/-- What has been taken from the tape, with the calls it answers. -/
abbrev Ans := List (Nat × List AV × List PR)
def Took (d : Ans) (t t' : Tp) (lg lg' : Lg) : Prop := t = d.map (·.2.2) ++ t' ∧ lg' = (d.map fun x => (x.1, x.2.1)).reverse ++ lg
def Good (F : Nat → Option CFun) (K : Nat) (d : Ans) : Prop := ∀ x ∈ d, runP F (ev F K) x.1 x.2.1 = some x.2.2
theorem Good.mono {F : Nat → Option CFun} {K j : Nat} {d : Ans} (h : Good F K d) (hj : K ≤ j) : Good F j d := fun x hx => runP_mono (ev_mono hj) (h x hx)
theorem Good.left {F : Nat → Option CFun} {K : Nat} {d e : Ans} (h : Good F K (d ++ e)) : Good F K d := fun x hx => h x (List.mem_append_left _ hx)
theorem Good.right {F : Nat → Option CFun} {K : Nat} {d e : Ans} (h : Good F K (d ++ e)) : Good F K e := fun x hx => h x (List.mem_append_right _ hx)
theorem Took.nil {t : Tp} {lg : Lg} : Took [] t t lg lg := ⟨rfl, rfl⟩
theorem Took.trans {d e : Ans} {t t' t2 : Tp} {lg lg' lg2 : Lg} (h : Took d t t' lg lg') (h' : Took e t' t2 lg' lg2) : Took (d ++ e) t t2 lg lg2 := by
  obtain ⟨rfl, rfl⟩ := h
  obtain ⟨rfl, rfl⟩ := h'
  constructor <;> simp
def toO : OutT → Out
  | .nor s _ _ => .nor s
  | .ex i s _ _ => .ex i s
  | .rt s _ _ => .rt s
  | .bad => .bad
def tpO : OutT → Option (Tp × Lg)
  | .nor _ t l => some (t, l)
  | .ex _ _ t l => some (t, l)
  | .rt _ t l => some (t, l)
  | .bad => none
/-- Self under the tape is right about self at level K and what lies above. -/
def SelfOK (F : Nat → Option CFun) (K k : Nat) (self : SelfT) : Prop := ∀ c s t lg t' lg', tpO (self c s t lg) = some (t', lg') → ∃ d, Took d t t' lg lg' ∧ (Good F K d → ev F (K + k) c s = toO (self c s t lg))
theorem callT_ok {F : Nat → Option CFun} {K k : Nat} {self : SelfT} (hs : SelfOK F K k self) {g : Nat} {args : List AV} {h h' : Heap} {n n' : Nat} {t t' : Tp} {lg lg' : Lg} {v : AV} (hc : callT F self g args h n t lg = some (v, h', n', t', lg')) : ∃ d, Took d t t' lg lg' ∧ (Good F K d → callA F (ev F (K + k)) g args h n = some (v, h', n')) := by
  unfold callT at hc
  cases hF : F g with
  | none => simp [hF] at hc
  | some cf =>
    simp only [hF] at hc
    cases hp : cf.pure with
    | true =>
      simp only [hp] at hc
      cases ha : argsD cf.bor args h with
      | none => simp [ha] at hc
      | some q =>
        obtain ⟨as, h2⟩ := q
        simp only [ha] at hc
        cases t with
        | nil => simp at hc
        | cons p t =>
          simp only at hc
          cases hl : lay p h2 n with
          | none => simp [hl] at hc
          | some r =>
            obtain ⟨l, h3, n3⟩ := r
            simp only [hl, Option.some.injEq, Prod.mk.injEq] at hc
            obtain ⟨rfl, rfl, rfl, rfl, rfl⟩ := hc
            refine ⟨[(g, as, p)], ⟨rfl, rfl⟩, fun hg => ?_⟩
            rw [callA_run hF hp ha (runP_mono (ev_mono (Nat.le_add_right K k)) (hg (g, as, p) (by simp))), hl]
    | false =>
      simp only [hp] at hc
      have har : arOK cf args = true := by
        cases har : arOK cf args with
        | false => simp [har] at hc
        | true => rfl
      simp only [har] at hc
      have key : ∀ s1, tpO (self cf.body ⟨initE 0 args .lf, h, n⟩ t lg) = some (t', lg') → (toO (self cf.body ⟨initE 0 args .lf, h, n⟩ t lg) = .nor s1 ∨ toO (self cf.body ⟨initE 0 args .lf, h, n⟩ t lg) = .rt s1) → leaveI cf s1 = some (v, h', n') → ∃ d, Took d t t' lg lg' ∧ (Good F K d → callA F (ev F (K + k)) g args h n = some (v, h', n')) := by
        intro s1 h1 h2 h3
        obtain ⟨d, e1, e2⟩ := hs _ _ _ _ _ _ h1
        refine ⟨d, e1, fun hg => ?_⟩
        unfold callA
        simp only [hF, hp, har, e2 hg]
        rcases h2 with h2 | h2 <;> simp only [h2, h3]
      split at hc
      · rename_i s1 t1 l1 hr
        split at hc
        · rename_i hl
          simp only [Option.some.injEq, Prod.mk.injEq] at hc
          obtain ⟨rfl, rfl, rfl, rfl, rfl⟩ := hc
          exact key s1 (by rw [hr]; rfl) (.inl (by rw [hr]; rfl)) hl
        · cases hc
      · rename_i s1 t1 l1 hr
        split at hc
        · rename_i hl
          simp only [Option.some.injEq, Prod.mk.injEq] at hc
          obtain ⟨rfl, rfl, rfl, rfl, rfl⟩ := hc
          exact key s1 (by rw [hr]; rfl) (.inr (by rw [hr]; rfl)) hl
        · cases hc
      · cases hc
theorem doOpT_ok {F : Nat → Option CFun} {K k : Nat} {self : SelfT} (hs : SelfOK F K k self) {o : COp} {s : St} {x : Nat} {h' : Heap} {n' : Nat} {t t' : Tp} {lg lg' : Lg} {v : AV} (hc : doOpT F self o s x t lg = some (v, h', n', t', lg')) : ∃ d, Took d t t' lg lg' ∧ (Good F K d → doOp (callA F (ev F (K + k))) o s x = some (v, h', n')) := by
  have prim : (match evOp o s.e s.h x with | some (v, h) => some (v, h, s.n, t, lg) | none => none) = some (v, h', n', t', lg') → ∃ d, Took d t t' lg lg' ∧ (Good F K d → (match evOp o s.e s.h x with | some (v, h) => some (v, h, s.n) | none => none) = some (v, h', n')) := by
    intro hc
    cases he : evOp o s.e s.h x with
    | none => simp [he] at hc
    | some p =>
      obtain ⟨v1, h1⟩ := p
      simp only [he, Option.some.injEq, Prod.mk.injEq] at hc
      obtain ⟨rfl, rfl, rfl, rfl, rfl⟩ := hc
      exact ⟨[], Took.nil, fun _ => rfl⟩
  cases o with
  | call g l => exact callT_ok hs hc
  | callv y l =>
    simp only [doOpT] at hc
    simp only [doOp]
    cases hy : y.ev s.e with
    | f g fs caps => rw [hy] at hc; exact callT_ok hs hc
    | _ => rw [hy] at hc; simp at hc
  | _ => exact prim hc
theorem evOpsT_ok {F : Nat → Option CFun} {K k : Nat} {self : SelfT} (hs : SelfOK F K k self) {n0 : Nat} : ∀ {l : List (Nat × COper)} {s s' : St} {t t' : Tp} {lg lg' : Lg}, evOpsT F self n0 l s t lg = some (s', t', lg') → ∃ d, Took d t t' lg lg' ∧ (Good F K d → evOps (callA F (ev F (K + k))) n0 l s = some s')
  | [], s, s', t, t', lg, lg', hc => by
    simp only [evOpsT, Option.some.injEq, Prod.mk.injEq] at hc
    obtain ⟨rfl, rfl, rfl⟩ := hc
    exact ⟨[], Took.nil, fun _ => rfl⟩
  | (i, o) :: l, s, s', t, t', lg, lg', hc => by
    simp only [evOpsT] at hc
    simp only [evOps]
    split at hc
    · cases hc
    · rename_i hw
      split at hc
      · rename_i v h n t1 lg1 hd
        split at hc
        · rename_i hb
          obtain ⟨d, e1, e2⟩ := doOpT_ok hs hd
          obtain ⟨d', f1, f2⟩ := evOpsT_ok hs hc
          refine ⟨d ++ d', e1.trans f1, fun hg => ?_⟩
          simp only [hw, e2 hg.left, hb]
          exact f2 hg.right
        · cases hc
      · cases hc
    · rename_i hw
      obtain ⟨d', f1, f2⟩ := evOpsT_ok hs hc
      refine ⟨d', f1, fun hg => ?_⟩
      simp only [hw]
      exact f2 hg
theorem took_tp {F : Nat → Option CFun} {K k : Nat} {self : SelfT} (hs : SelfOK F K k self) : SelfOK F K (k + 1) (stepT F self) := by
  intro c s t lg t' lg' hc
  have hev : ∀ c s, ev F (K + (k + 1)) c s = step F (ev F (K + k)) c s := fun _ _ => rfl
  rw [hev]
  cases c with
  | skip =>
    simp only [stepT, tpO, Option.some.injEq, Prod.mk.injEq] at hc ⊢
    obtain ⟨rfl, rfl⟩ := hc
    exact ⟨[], Took.nil, fun _ => rfl⟩
  | exit id =>
    simp only [stepT, tpO, Option.some.injEq, Prod.mk.injEq] at hc ⊢
    obtain ⟨rfl, rfl⟩ := hc
    exact ⟨[], Took.nil, fun _ => rfl⟩
  | ret =>
    simp only [stepT, tpO, Option.some.injEq, Prod.mk.injEq] at hc ⊢
    obtain ⟨rfl, rfl⟩ := hc
    exact ⟨[], Took.nil, fun _ => rfl⟩
  | bad => simp [stepT, tpO] at hc
  | reg len ops =>
    simp only [stepT, step] at hc ⊢
    cases he : evOpsT F self s.n ops ⟨s.e, s.h, s.n + len⟩ t lg with
    | none => simp [he, tpO] at hc
    | some p =>
      obtain ⟨s1, t1, l1⟩ := p
      simp only [he, tpO, Option.some.injEq, Prod.mk.injEq] at hc
      obtain ⟨rfl, rfl⟩ := hc
      obtain ⟨d, e1, e2⟩ := evOpsT_ok hs he
      exact ⟨d, e1, fun hg => by rw [e2 hg]; rfl⟩
  | seq a b =>
    simp only [stepT, step] at hc ⊢
    cases ha : self a s t lg with
    | bad => simp [ha, tpO] at hc
    | nor s1 t1 l1 =>
      rw [ha] at hc
      simp only at hc
      obtain ⟨d, e1, e2⟩ := hs a s t lg t1 l1 (by rw [ha]; rfl)
      obtain ⟨d', f1, f2⟩ := hs b s1 t1 l1 t' lg' hc
      refine ⟨d ++ d', e1.trans f1, fun hg => ?_⟩
      rw [e2 hg.left, ha]
      simp only [toO]
      exact f2 hg.right
    | ex i s1 t1 l1 =>
      rw [ha] at hc
      obtain ⟨d, e1, e2⟩ := hs a s t lg t' lg' (by rw [ha]; exact hc)
      exact ⟨d, e1, fun hg => by rw [e2 hg, ha]; rfl⟩
    | rt s1 t1 l1 =>
      rw [ha] at hc
      obtain ⟨d, e1, e2⟩ := hs a s t lg t' lg' (by rw [ha]; exact hc)
      exact ⟨d, e1, fun hg => by rw [e2 hg, ha]; rfl⟩
  | cond x a b =>
    simp only [stepT, step] at hc ⊢
    split at hc
    · rename_i hx; rw [hx]; exact hs _ _ _ _ _ _ hc
    · rename_i hx; rw [hx]; exact hs _ _ _ _ _ _ hc
    · simp [tpO] at hc
  | block id b =>
    simp only [stepT, step] at hc ⊢
    have key : ∃ d, Took d t t' lg lg' ∧ (Good F K d → ev F (K + k) b s = toO (self b s t lg)) := by
      refine hs b s t lg t' lg' ?_
      cases ha : self b s t lg with
      | ex j s1 t1 l1 =>
        rw [ha] at hc
        simp only at hc
        split at hc <;> exact hc
      | _ => rw [ha] at hc; exact hc
    obtain ⟨d, e1, e2⟩ := key
    refine ⟨d, e1, fun hg => ?_⟩
    rw [e2 hg]
    cases ha : self b s t lg with
    | ex j s1 t1 l1 =>
      simp only [toO]
      cases hj : j == id <;> rfl
    | _ => rfl
  | loop b =>
    simp only [stepT, step] at hc ⊢
    cases ha : self b s t lg with
    | bad => simp [ha, tpO] at hc
    | nor s1 t1 l1 =>
      rw [ha] at hc
      simp only at hc
      obtain ⟨d, e1, e2⟩ := hs b s t lg t1 l1 (by rw [ha]; rfl)
      obtain ⟨d', f1, f2⟩ := hs (.loop b) s1 t1 l1 t' lg' hc
      refine ⟨d ++ d', e1.trans f1, fun hg => ?_⟩
      rw [e2 hg.left, ha]
      simp only [toO]
      exact f2 hg.right
    | ex i s1 t1 l1 =>
      rw [ha] at hc
      obtain ⟨d, e1, e2⟩ := hs b s t lg t' lg' (by rw [ha]; exact hc)
      exact ⟨d, e1, fun hg => by rw [e2 hg, ha]; rfl⟩
    | rt s1 t1 l1 =>
      rw [ha] at hc
      obtain ⟨d, e1, e2⟩ := hs b s t lg t' lg' (by rw [ha]; exact hc)
      exact ⟨d, e1, fun hg => by rw [e2 hg, ha]; rfl⟩
theorem evT_ok {F : Nat → Option CFun} {K : Nat} : ∀ k, SelfOK F K k (evT F k)
  | 0 => fun c s t lg t' lg' h => by simp [evT, tpO] at h
  | k + 1 => took_tp (evT_ok k)
/-- One call's own work: its results, and the calls that it leans on. -/
def runT (F : Nat → Option CFun) (k g : Nat) (as : List AV) (t : Tp) : Option (List PR × Lg) :=
  match F g with
  | none => none
  | some cf => (match cf.pure with
    | false => none
    | true => (match evT F k cf.body ⟨initE 0 as .lf, .lf, 0⟩ t [] with
      | .nor s [] lg => (match prsOf cf s with | some p => some (p, lg) | none => none)
      | .rt s [] lg => (match prsOf cf s with | some p => some (p, lg) | none => none)
      | _ => none))
theorem fact_of {F : Nat → Option CFun} {k g : Nat} {as : List AV} {p : List PR} (d : Ans) (hr : runT F k g as (d.map (·.2.2)) = some (p, (d.map fun x => (x.1, x.2.1)).reverse)) (hd : ∀ x ∈ d, Fact F x.1 x.2.1 x.2.2) : Fact F g as p := by
  have hK : ∃ K, Good F K d := by
    clear hr
    induction d with
    | nil => exact ⟨0, fun x hx => by simp at hx⟩
    | cons x d ih =>
      obtain ⟨K1, h1⟩ := ih fun y hy => hd y (List.mem_cons_of_mem _ hy)
      obtain ⟨K2, h2⟩ := hd x (by simp)
      refine ⟨K1 + K2, fun y hy => ?_⟩
      rcases List.mem_cons.1 hy with rfl | hy
      · exact runP_mono (ev_mono (by omega)) h2
      · exact runP_mono (ev_mono (by omega)) (h1 y hy)
  obtain ⟨K, hK⟩ := hK
  refine ⟨K + k, ?_⟩
  unfold runT at hr
  unfold runP
  cases hF : F g with
  | none => simp [hF] at hr
  | some cf =>
    simp only [hF] at hr ⊢
    cases hp : cf.pure with
    | false => simp [hp] at hr
    | true =>
      simp only [hp] at hr ⊢
      have same : ∀ lg, tpO (evT F k cf.body ⟨initE 0 as .lf, .lf, 0⟩ (d.map (·.2.2)) []) = some ([], lg) → lg = (d.map fun x => (x.1, x.2.1)).reverse → ev F (K + k) cf.body ⟨initE 0 as .lf, .lf, 0⟩ = toO (evT F k cf.body ⟨initE 0 as .lf, .lf, 0⟩ (d.map (·.2.2)) []) := by
        intro lg h1 h2
        obtain ⟨d', ⟨e1, e2⟩, e3⟩ := evT_ok (K := K) k _ _ _ _ _ _ h1
        have hdd : d' = d := by
          simp only [List.append_nil] at e1 e2
          rw [h2] at e2
          have e4 := List.reverse_inj.1 e2
          clear e2 e3 h1 h2 hr hd hK
          induction d generalizing d' with
          | nil => cases d' with
            | nil => rfl
            | cons _ _ => simp at e1
          | cons x d ih =>
            cases d' with
            | nil => simp at e1
            | cons y d' =>
              simp only [List.map_cons, List.cons.injEq, Prod.mk.injEq] at e1 e4
              obtain ⟨x1, x2, x3⟩ := x
              obtain ⟨y1, y2, y3⟩ := y
              simp only at e1 e4
              obtain ⟨rfl, e1⟩ := e1
              obtain ⟨⟨rfl, rfl⟩, e4⟩ := e4
              rw [ih d' e1 e4]
        rw [hdd] at e3
        exact e3 hK
      split at hr
      · rename_i s lg hev
        split at hr
        · rename_i p' hp'
          simp only [Option.some.injEq, Prod.mk.injEq] at hr
          obtain ⟨rfl, rfl⟩ := hr
          rw [same _ (by rw [hev]; rfl) rfl, hev]
          exact hp'
        · cases hr
      · rename_i s lg hev
        split at hr
        · rename_i p' hp'
          simp only [Option.some.injEq, Prod.mk.injEq] at hr
          obtain ⟨rfl, rfl⟩ := hr
          rw [same _ (by rw [hev]; rfl) rfl, hev]
          exact hp'
        · cases hr
      · cases hr
end Tm
/- From a fact of the machine to a call of the program; the table's functions one by one. No statement of the seat is proved here. -/
namespace Tm
open Go
set_option linter.unusedVariables false
set_option linter.unusedSimpArgs false
section
variable {P : Program} {G : Nat → Option AV} {pu : Nat → Bool} {F : Nat → Option CFun}
theorem runP_some {self : Self} {g : Nat} {as : List AV} {p : List PR} (h : runP F self g as = some p) : ∃ cf, F g = some cf ∧ cf.pure = true := by
  unfold runP at h
  cases hF : F g with
  | none => simp [hF] at h
  | some cf =>
    cases hp : cf.pure with
    | true => exact ⟨cf, rfl, hp⟩
    | false => simp [hF, hp] at h
/-- All memory is old and stays. -/
def oldMem (W : World) : Mem := ⟨W, fun b => (cellsOf W b).length, W.heap.size⟩
theorem old_RH (W : World) : RH (fun _ => none) (oldMem W) .lf := ⟨fun _ => Nat.le_refl _, Nat.le_refl _, fun _ _ _ h => by simp at h, fun _ _ _ _ _ _ h => by simp at h, fun _ _ _ h => by simp at h⟩
theorem below_ext {W : World} {M' : Mem} (h : Ext (oldMem W) M') : RowKit.Below W.heap.size W M'.w := ⟨h.os, h.tape, h.out, h.size, fun k hk => h.low k hk⟩
/-- A function without arguments that answers true. -/
theorem call_true (hall : ∀ k, CallOK P G (callA F (ev F k))) {g : Nat} (hf : Fact F g [] [.v (.d (.b true))]) {W : World} (hG : GOk G (oldMem W)) :
    Calls P g #[] W fun e W' => e = .returned (.bool true) ∧ RowKit.Below W.heap.size W W' := by
  obtain ⟨K, hK⟩ := hf
  obtain ⟨cf, hF, hp⟩ := runP_some hK
  have hc : callA F (ev F K) g [] .lf 0 = some (.d (.b true), .lf, 0) := by
    rw [callA_run hF hp (args := []) (as := []) (h := .lf) (h2 := .lf) (n := 0) rfl hK]
    rfl
  refine Calls.mono ((hall K g [] .lf 0 _ _ _ hc).2 (fun _ => none) (oldMem W) [] hG (old_RH W) (fun _ _ => rfl) rfl) fun e W' he => ?_
  cases e with
  | returned u =>
    obtain ⟨M', I', rfl, hx, _, _, _, _, hv⟩ := he
    exact ⟨by rw [hv.bool], below_ext hx⟩
  | _ => exact he.elim
/-! ### The table -/
def T.All {α : Type} (Q : Nat → α → Prop) : T α → (Nat → Nat) → Prop
  | .lf, _ => True
  | .nd v l r, f => (∀ x, v = some x → Q (f 0) x) ∧ T.All Q l (fun k => f (2 * k + 1)) ∧ T.All Q r (fun k => f (2 * k + 2))
theorem T.All.get {α : Type} {Q : Nat → α → Prop} : ∀ {t : T α} {f : Nat → Nat}, t.All Q f → ∀ k x, t.get k = some x → Q (f k) x
  | .lf, _, _, k, x, h => by cases h
  | .nd v l r, f, ⟨h1, h2, h3⟩, k, x, h => by
    simp only [T.get] at h
    by_cases hk : k = 0
    · subst hk
      exact h1 x h
    · have h0 : (k == 0) = false := by simpa using hk
      simp only [h0, cond_false] at h
      by_cases hodd : k % 2 = 1
      · have e1 : (k % 2 == 1) = true := by simpa using hodd
        simp only [e1, cond_true] at h
        have := h2.get (k / 2) x h
        rwa [show 2 * (k / 2) + 1 = k by omega] at this
      · have e1 : (k % 2 == 1) = false := by simpa using hodd
        simp only [e1, cond_false] at h
        have := h3.get (k / 2 - 1) x h
        rwa [show 2 * (k / 2 - 1) + 2 = k by omega] at this
theorem T.All.nd {α : Type} {Q : Nat → α → Prop} {x : α} {l r : T α} {f : Nat → Nat} (h : Q (f 0) x) (hl : l.All Q fun k => f (2 * k + 1)) (hr : r.All Q fun k => f (2 * k + 2)) : (T.nd (some x) l r).All Q f := ⟨fun y e => by cases e; exact h, hl, hr⟩
theorem T.All.no {α : Type} {Q : Nat → α → Prop} {l r : T α} {f : Nat → Nat} (hl : l.All Q fun k => f (2 * k + 1)) (hr : r.All Q fun k => f (2 * k + 2)) : (T.nd none l r).All Q f := ⟨fun y e => (by cases e), hl, hr⟩
theorem T.All.lf {α : Type} {Q : Nat → α → Prop} {f : Nat → Nat} : (T.lf : T α).All Q f := trivial
def puOf (t : T CFun) (g : Nat) : Bool := match t.get g with
  | some cf => cf.pure
  | none => false
theorem puOf_spec {t : T CFun} {g : Nat} (h : puOf t g = true) : ∃ cf, t.get g = some cf ∧ cf.pure = true := by
  unfold puOf at h
  split at h
  · rename_i cf hc; exact ⟨cf, hc, h⟩
  · cases h
/-- What is asked of a function of the table. -/
def FnGood (P : Program) (G : Nat → Option AV) (pu : Nat → Bool) (F : Nat → Option CFun) (g : Nat) (cf : CFun) : Prop := FnOK P G pu g cf ∨ ∀ k, (∀ j, j < k → CallOK P G (callA F (ev F j))) → CodeOK P G pu F k → RunOK P G F k g cf
theorem fnOK_of {g : Nat} {f : Func} {cf : CFun} {a b c d : Bool} (hf : P.funcs[g]? = some f) (hn : (f.name == "runtime.NumGoroutine") = false) (h : compF P G pu f a b c d = some cf) : FnOK P G pu g cf := by
  unfold compF at h
  split at h
  · rename_i code rs hb hr
    simp only [Option.some.injEq] at h
    subst h
    exact ⟨f, code, hf, hn, hb, rfl, hr⟩
  · cases h
theorem good_of {g : Nat} {f : Func} {cf : CFun} {a b c d : Bool} (hf : P.funcs[g]? = some f) (hn : (f.name == "runtime.NumGoroutine") = false) (h : compF P G pu f a b c d = some cf) : FnGood P G pu F g cf := .inl (fnOK_of hf hn h)
/-- A function that the runs at hand never enter. -/
def cNo (p : Bool) : CFun := ⟨[], .bad, p, false, false, false⟩
theorem good_no {g : Nat} {f : Func} {p : Bool} (hf : P.funcs[g]? = some f) (hn : (f.name == "runtime.NumGoroutine") = false) (hb : f.body.isSome = true) : FnGood P G pu F g (cNo p) := .inr fun k _ _ => ⟨⟨f, hf, hn, hb⟩, fun args h n s l _ hev => by
  have : ∀ s, ev F k .bad s = .bad := fun s => by cases k <;> rfl
  rcases hev with e | e <;> (rw [show (cNo p).body = .bad from rfl, this] at e; cases e)⟩
theorem table_ok {t : T CFun} (hm : P.follows .mixedOrders = true) (h : t.All (FnGood P G (puOf t) t.get) id) : ∀ k, CallOK P G (callA t.get (ev t.get k)) := fun k =>
  (all_ok (pu := puOf t) hm (fun g hg => puOf_spec hg) (fun g cf hg => h.get g cf hg) k).2
def Facts (F : Nat → Option CFun) (d : Ans) : Prop := ∀ x ∈ d, Fact F x.1 x.2.1 x.2.2
theorem fn : Facts F [] := fun x hx => by simp at hx
theorem fc {g : Nat} {as : List AV} {p : List PR} {d : Ans} (h : Fact F g as p) (hd : Facts F d) : Facts F ((g, as, p) :: d) := fun x hx => by
  rcases List.mem_cons.1 hx with rfl | hx
  · exact h
  · exact hd x hx
end
/-! ### Parts of code, by place -/
def bodyOf (f : Func) : Code := match f.body with | some b => b | none => .skip
def sa : Code → Code | .seq a _ => a | c => c
def sb : Code → Code | .seq _ b => b | c => c
def blkC : Code → Code | .block _ c => c | c => c
def loopC : Code → Code | .loop c => c | c => c
def condA : Code → Code | .cond _ a _ => a | c => c
def rfA : Code → Code | .rangeFunc _ _ a _ => a | c => c
def rfB : Code → Code | .rangeFunc _ _ _ b => b | c => c
def regO : Code → Array Oper | .region _ o _ => o | _ => #[]
def regI : Code → Nat | .region i _ _ => i | _ => 0
def opAt (a : Array Oper) (i : Nat) : Oper := match a[i]? with | some o => o | none => default
def cArgs (o : Op) : Array Operand := match o with | .call c => c.args | _ => #[]
def cTs (o : Op) : Array TypeId := match o with | .call c => c.argTypes | _ => #[]
def cT (o : Op) : TypeId := match o with | .binOp _ t _ _ _ => t | _ => 0
def cTy (o : Op) : TypeId := match o with | .binOp _ _ _ _ t => t | _ => 0
def elT (P : Program) (t : TypeId) : TypeId := match P.underlying t with | some (.slice e) => e | _ => 0
def bsZ (c : CCode) : List D := match c with | .seq (.reg _ ((_, o) :: _)) _ => (match o.op with | .bslice _ zs _ _ => zs | _ => []) | _ => []
theorem all_of {p : Oper → Bool} {a : Array Oper} (h : a.toList.all p = true) : ∀ (i : Nat) o, a[i]? = some o → p o = true := fun i o ho => List.all_eq_true.1 h o (by
  have := (Array.getElem?_eq_some_iff.1 ho)
  obtain ⟨h1, rfl⟩ := this
  simp)
end Tm
