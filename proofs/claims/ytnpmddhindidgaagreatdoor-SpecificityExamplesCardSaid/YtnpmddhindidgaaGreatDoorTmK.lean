/- The abstract machine on trees, part K. No statement of the seat is proved here. -/
import Derived.Maps.RangeRun
import Derived.LoopN
import Derived.Test.YtnpmddhindidgaaGreatDoorTmI
set_option linter.unusedVariables false
set_option linter.unusedSimpArgs false
set_option linter.constructorNameAsVariable false
set_option linter.unusedSectionVars false
set_option linter.deprecated false
/- A range over a map of at most one entry (intersect.closedFit): the machine's side; codes side by side. No statement of the seat is proved here. -/
set_option linter.unusedVariables false
set_option linter.unusedSimpArgs false
namespace Tm
open Go
section
variable {P : Program} {G : Nat → Option AV} {pu : Nat → Bool} {F : Nat → Option CFun} {I : Inj} {M : Mem}
/-! ### Temporaries that stay -/
def noT (t : Nat) : List (Nat × COper) → Bool
  | [] => true
  | (_, o) :: l => (match o.dst with | some d => !(d == t) | none => true) && noT t l
def stays (t : Nat) : CCode → Bool
  | .reg _ ops => noT t ops
  | .seq a b => stays t a && stays t b
  | .cond _ a b => stays t a && stays t b
  | .skip => true
  | .ret => true
  | _ => false
theorem putE_ne {e : Env} {d : Option Nat} {v : AV} {t : Nat} (h : (match d with | some d => !(d == t) | none => true) = true) : (putE e d v).get t = e.get t := by
  cases d with
  | none => rfl
  | some d =>
    simp only [Bool.not_eq_true', beq_eq_false_iff_ne] at h
    exact T.gn (fun e => h e.symm)
theorem evOps_noT {C : CallF} {n0 t : Nat} : ∀ {l : List (Nat × COper)} {s s' : St}, noT t l = true → evOps C n0 l s = some s' → s'.e.get t = s.e.get t
  | [], s, s', _, h => by simp only [evOps, Option.some.injEq] at h; rw [h]
  | (i, o) :: l, s, s', hn, h => by
    simp only [noT, Bool.and_eq_true] at hn
    simp only [evOps] at h
    split at h
    · cases h
    · split at h
      · split at h
        · exact (evOps_noT hn.2 h).trans (putE_ne hn.1)
        · cases h
      · cases h
    · exact (evOps_noT hn.2 h).trans (putE_ne hn.1)
theorem ev_stays {t : Nat} : ∀ (k : Nat) (c : CCode) (s : St), stays t c = true → (∀ s', ev F k c s = .nor s' → s'.e.get t = s.e.get t) ∧ ∀ i s', ev F k c s ≠ .ex i s'
  | 0, c, s, _ => ⟨fun s' h => (by cases h), fun i s' h => by cases h⟩
  | k + 1, .reg l ops, s, hs => by
    have e : ev F (k + 1) (.reg l ops) s = (match evOps (callA F (ev F k)) s.n ops ⟨s.e, s.h, s.n + l⟩ with | some s => .nor s | none => .bad) := rfl
    rw [e]
    cases h : evOps (callA F (ev F k)) s.n ops ⟨s.e, s.h, s.n + l⟩ with
    | none => exact ⟨fun s' h => (by cases h), fun i s' h => by cases h⟩
    | some s1 => exact ⟨fun s' h' => (by cases h'; exact (evOps_noT hs h).trans rfl), fun i s' h => by cases h⟩
  | k + 1, .seq a b, s, hs => by
    simp only [stays, Bool.and_eq_true] at hs
    have e : ev F (k + 1) (.seq a b) s = (match ev F k a s with | .nor s => ev F k b s | r => r) := rfl
    have h1 := ev_stays k a s hs.1
    rw [e]
    cases h : ev F k a s with
    | nor s1 =>
      have h2 := ev_stays k b s1 hs.2
      exact ⟨fun s' h' => (h2.1 s' h').trans (h1.1 s1 h), h2.2⟩
    | ex i s1 => exact absurd h (h1.2 i s1)
    | rt s1 => exact ⟨fun s' h => (by cases h), fun i s' h => by cases h⟩
    | bad => exact ⟨fun s' h => (by cases h), fun i s' h => by cases h⟩
  | k + 1, .cond c a b, s, hs => by
    simp only [stays, Bool.and_eq_true] at hs
    have e : ev F (k + 1) (.cond c a b) s = (match c.ev s.e with | .d (.b true) => ev F k a s | .d (.b false) => ev F k b s | _ => .bad) := rfl
    rw [e]
    split
    · exact ev_stays k a s hs.1
    · exact ev_stays k b s hs.2
    · exact ⟨fun s' h => (by cases h), fun i s' h => by cases h⟩
  | k + 1, .skip, s, _ => ⟨fun s' h => (by have : Out.nor s = .nor s' := h; cases this; rfl), fun i s' h => by have : Out.nor s = .ex i s' := h; cases this⟩
  | k + 1, .ret, s, _ => ⟨fun s' h => (by have : Out.rt s = .nor s' := h; cases this), fun i s' h => by have : Out.rt s = .ex i s' := h; cases this⟩
  | k + 1, .block _ _, s, hs => by simp [stays] at hs
  | k + 1, .loop _, s, hs => by simp [stays] at hs
  | k + 1, .exit _, s, hs => by simp [stays] at hs
  | k + 1, .bad, s, hs => by simp [stays] at hs
/-! ### Codes side by side -/
theorem OutOK.imp {o : Out} {ex : Exit} {K K' : St → Prop} (h : OutOK o ex K) (hk : ∀ s, K s → K' s) : OutOK o ex K' := by
  cases o <;> cases ex <;> simp only [OutOK] at h ⊢ <;> first | exact hk _ h | exact ⟨h.1, hk _ h.2⟩ | exact h
def Simu (P : Program) (G : Nat → Option AV) (F : Nat → Option CFun) (N k : Nat) (cc : CCode) (code : Code) : Prop := ∀ (s : St), ev F k cc s ≠ .bad → ∀ (I : Inj) (M : Mem) (a : Act), SR G I M s a → N ≤ a.tmps.size → Free I s.n →
  code.wp P (fun ex a' w' => OutOK (ev F k cc s) ex (Rch G I M s.n a a' w')) a M.w
theorem simu_comp {k j N : Nat} {code : Code} (hcode : CodeOK P G pu F k) (hj : j ≤ k) : Simu P G F N j (comp P G pu N code) code := fun s hb I M a hS hN hf => by
  have e := ev_mono hj _ s hb
  have := hcode N _ s (by rw [e]; exact hb) code rfl I M a hS hN hf
  rw [e] at this
  exact this
theorem simu_seq {k N : Nat} {ca cb : CCode} {a b : Code} (ha : ∀ j, j < k → Simu P G F N j ca a) (hb : ∀ j, j < k → Simu P G F N j cb b) : Simu P G F N k (.seq ca cb) (.seq a b) := fun s hbad I M A hS hN hf => by
  cases k with
  | zero => exact absurd rfl hbad
  | succ k =>
    have e : ev F (k + 1) (.seq ca cb) s = (match ev F k ca s with | .nor s => ev F k cb s | r => r) := rfl
    rw [e] at hbad ⊢
    have h1 : ev F k ca s ≠ .bad := by intro h; rw [h] at hbad; exact hbad rfl
    refine wp_seq (wp_mono (ha k (by omega) s h1 I M A hS hN hf) fun ex a' w' ho => ?_)
    cases hr : ev F k ca s with
    | nor s1 =>
      rw [hr] at ho hbad
      cases ex with
      | normal =>
        obtain ⟨I', M', R⟩ := ho
        have hw := R.w
        subst hw
        refine wp_mono (hb k (by omega) s1 hbad I' M' a' R.sr (by rw [R.sz]; exact hN) (R.fresh hf)) fun ex2 a2 w2 h2 => ?_
        exact h2.imp fun s2 ⟨I2, M2, R2⟩ => ⟨I2, M2, R.trans R2⟩
      | _ => exact absurd ho (by simp [OutOK])
    | ex i s1 =>
      rw [hr] at ho
      cases ex with
      | normal => exact absurd ho (by simp [OutOK])
      | _ => exact ho
    | rt s1 =>
      rw [hr] at ho
      cases ex with
      | normal => exact absurd ho (by simp [OutOK])
      | _ => exact ho
    | bad => exact absurd hr h1
theorem run_of_simu {k g : Nat} {cf : CFun} {fn : Func} {code : Code} (h1 : P.funcs[g]? = some fn) (h2 : (fn.name == "runtime.NumGoroutine") = false) (h3 : fn.body = some code) (h4 : compR P fn.results.toList = some cf.results) (hk : Simu P G F fn.ntmps k cf.body code) : RunOK P G F k g cf := by
  refine ⟨⟨fn, h1, h2, by rw [h3]; rfl⟩, fun args h n s l _ hev hl I M vs hG hH hfr hA => ?_⟩
  refine calls_of_wp h1 h3 ?_
  have hsz : vs.toArray.size = vs.length := by simp
  refine wp_mono (hk ⟨initE 0 args .lf, h, n⟩ (by rcases hev with e | e <;> rw [e] <;> simp) I M _ ⟨initE_rel hA, hH, hG⟩ (by simp; omega) hfr) fun ex a' w' hq => ?_
  have fin : Rch G I M n { tmps := vs.toArray ++ Array.replicate (fn.ntmps - vs.toArray.size) undef, defers := [] } a' w' s → a'.defers = [] ∧ ∃ v, (results fn a'.tmps).run P w' = .ok v w' ∧ BodyPost I M n s l (.returned v) w' := by
    rintro ⟨I', M', hR⟩
    have hw := hR.w
    subst hw
    refine ⟨hR.df, ?_⟩
    obtain ⟨us, e1, e2⟩ := results_rel hR.sr.rh hR.sr.er h4 hl
    exact ⟨_, results_eq e1, us, M', I', rfl, rfl, hR.ext, hR.le, hR.new, hR.n, hR.sr.rh, e2⟩
  rcases hev with e | e
  · rw [e] at hq
    cases ex with
    | normal => exact fin hq
    | _ => exact absurd hq (by simp [OutOK])
  · rw [e] at hq
    cases ex with
    | ret => exact fin hq
    | _ => exact absurd hq (by simp [OutOK])
/-! ### The machine's code around a range over a map of at most one entry -/
def mU : COp := .mv (.c .u)
def zD1 : AV := .d (.ag zD0)
def I0 : Opd := .c (.d (.i .i64 (.ofNat 0)))
def I1 : Opd := .c (.d (.i .i64 (.ofNat 1)))
def cU : List (Nat × COper) := [(0, o1 (some 57) mU), (1, o1 (some 58) mU), (2, o1 (some 60) mU), (3, o1 (some 61) mU), (4, o1 (some 62) mU)]
def cX1 : List (Nat × COper) := [(0, o1 (some 38) mU), (1, o1 (some 40) mU), (2, o1 (some 41) mU), (3, o1 (some 42) mU), (4, o1 (some 39) .iter), (5, o1 (some 57) (.mkeys (.t 9))), (6, o1 (some 58) (.len false (.t 57))), (7, o1 (some 60) (.bin .lss 0 I1 (.t 58))), (8, o1 (some 61) (.bin .lss 0 I0 (.t 58)))]
def cB1 : List (Nat × COper) := (5, o1 (some 62) (.idxa 1 (.t 57) I0)) :: (0, o1 (some 43) (.load none (.t 62))) :: (1, o1 (some 44) (.look false zD1 (.t 9) (.t 43) false)) :: (2, o1 (some 57) mU) :: (2, o1 (some 58) mU) :: (2, o1 (some 60) mU) :: (2, o1 (some 61) mU) :: (2, o1 (some 62) mU) :: (3, o1 (some 13) (.alloc zV0)) :: (4, o1 (some 12) (.mv (.t 43))) :: (5, o1 none (.store 4 (.t 13) (.t 44))) :: []
def cZ : List (Nat × COper) := [(0, o1 (some 57) (.mkeys (.t 9))), (1, o1 (some 58) (.len false (.t 57))), (2, o1 (some 60) (.bin .lss 0 I1 (.t 58)))]
def cfX (BB : CCode) : CCode := .seq (.reg 9 cX1) (.seq (.cond (.t 60) .bad .skip) (.cond (.t 61) (.seq (.reg 6 cB1) (.seq BB (.seq (.reg 3 cZ) (.seq (.cond (.t 60) .bad .skip) (.reg 5 cU))))) (.reg 5 cU)))
section
variable {C : CallF} {n0 : Nat}
theorem mU_ev {e : Env} {h : Heap} {k : Nat} {v : AV} {h' : Heap} (hv : evOp mU e h k = some (v, h')) : v = .u ∧ h' = h := by
  simp only [mU, evOp, Opd.ev, Option.some.injEq, Prod.mk.injEq] at hv
  exact ⟨hv.1.symm, hv.2.symm⟩
theorem one_ev {i : Nat} {d : Option Nat} {c : COp} {l : List (Nat × COper)} {e : Env} {h : Heap} {n : Nat} {s' : St} (hc : isCall c = false) (hx : evOps C n0 ((i, o1 d c) :: l) ⟨e, h, n⟩ = some s') :
    ∃ v h', evOp c e h (n0 + i) = some (v, h') ∧ fresh h (n0 + i) c = true ∧ evOps C n0 l ⟨putE e d v, h', n⟩ = some s' := by
  obtain ⟨v, h', n', h1, h2, h3⟩ := evOps_one hx
  obtain ⟨h4, rfl⟩ := doOp_ev' hc h1
  exact ⟨v, h', h4, h2, h3⟩
theorem u_ev {i d : Nat} {l : List (Nat × COper)} {e : Env} {h : Heap} {n : Nat} {s' : St} (hx : evOps C n0 ((i, o1 (some d) mU) :: l) ⟨e, h, n⟩ = some s') : evOps C n0 l ⟨e.set d .u, h, n⟩ = some s' := by
  obtain ⟨v, h', h1, _, h3⟩ := one_ev rfl hx
  obtain ⟨rfl, rfl⟩ := mU_ev h1
  exact h3
theorem keys_ev {e : Env} {h : Heap} {k : Nat} {v : AV} {h' : Heap} (hv : evOp (.mkeys (.t 9)) e h k = some (v, h')) : ∃ x ks vs, e.get 9 = some (.m x) ∧ h.get x = some (.map ks vs) ∧ v = .d (.sl ks) ∧ h' = h := by
  simp only [evOp, Opd.ev] at hv
  split at hv
  · rename_i ks hk
    simp only [Option.some.injEq, Prod.mk.injEq] at hv
    obtain ⟨rfl, rfl⟩ := hv
    unfold items at hk
    split at hk
    · rename_i x hx
      split at hk
      · rename_i ks' vs hg
        cases hk
        refine ⟨x, _, vs, ?_, hg, rfl, rfl⟩
        cases h9 : e.get 9 with
        | none => rw [h9] at hx; cases hx
        | some y => rw [h9] at hx; simp at hx; rw [hx]
      · cases hk
    · cases hk
  · cases hv
end
end
end Tm
/- A range over a map of at most one entry: what the machine's regions do. No statement of the seat is proved here. -/
set_option linter.unusedVariables false
set_option linter.unusedSimpArgs false
namespace Tm
open Go
section
variable {C : CallF} {n0 n : Nat} {e : Env} {h : Heap} {s1 : St}
theorem len_ev {e : Env} {h : Heap} {k x : Nat} {v : AV} {h' : Heap} {ks : List D} (hx : e.get x = some (.d (.sl ks))) (hv : evOp (.len false (.t x)) e h k = some (v, h')) : v = .d (.i .i64 (.ofNat ks.length)) ∧ h' = h := by
  simp only [evOp, Opd.ev, hx, Option.getD_some, Option.some.injEq, Prod.mk.injEq] at hv
  exact ⟨hv.1.symm, hv.2.symm⟩
theorem lss_ev {e : Env} {h : Heap} {k x m c : Nat} {v : AV} {h' : Heap} (hx : e.get x = some (.d (.i .i64 (.ofNat m)))) (hv : evOp (.bin .lss 0 (.c (.d (.i .i64 (.ofNat c)))) (.t x)) e h k = some (v, h')) : v = .d (.b (decide (c < m))) ∧ h' = h := by
  obtain ⟨d, h1, rfl, rfl⟩ := bin_ev hv
  simp only [Opd.ev, hx, Option.getD_some, binA, binI, beq_self_eq_true, cond_true, Option.some.injEq] at h1
  refine ⟨?_, rfl⟩
  rw [← h1]
  simp
/-- What a set of temporaries was before. -/
theorem x1_inv (hx : evOps C n0 cX1 ⟨e, h, n⟩ = some s1) : ∃ x ks vs, e.get 9 = some (.m x) ∧ h.get x = some (.map ks vs) ∧ h.get (n0 + 4) = none ∧
    s1 = ⟨((((((((e.set 38 .u).set 40 .u).set 41 .u).set 42 .u).set 39 (.p (n0 + 4) 0)).set 57 (.d (.sl ks))).set 58 (.d (.i .i64 (.ofNat ks.length)))).set 60 (.d (.b (decide (1 < ks.length))))).set 61 (.d (.b (decide (0 < ks.length)))), h, n⟩ := by
  have hx1 := u_ev hx
  have hx2 := u_ev hx1
  have hx3 := u_ev hx2
  have hx4 := u_ev hx3
  obtain ⟨v, h', h1, _, hx5⟩ := one_ev rfl hx4
  simp only [evOp] at h1
  cases hn : (h.get (n0 + 4)).isNone with
  | false => simp [hn] at h1
  | true =>
    simp only [hn, cond_true, Option.some.injEq, Prod.mk.injEq] at h1
    obtain ⟨rfl, rfl⟩ := h1
    simp only [putE] at hx5
    obtain ⟨v, h', h1, _, hx6⟩ := one_ev rfl hx5
    obtain ⟨x, ks, vs, h9, hg, rfl, rfl⟩ := keys_ev h1
    obtain ⟨v, h', h2, _, hx7⟩ := one_ev rfl hx6
    simp only [putE] at h2 hx7
    obtain ⟨rfl, rfl⟩ := len_ev T.gs h2
    obtain ⟨v, h', h3, _, hx8⟩ := one_ev rfl hx7
    simp only [putE] at h3 hx8
    obtain ⟨rfl, rfl⟩ := lss_ev T.gs h3
    obtain ⟨v, h', h4, _, hx9⟩ := one_ev rfl hx8
    simp only [putE] at h4 hx9
    obtain ⟨rfl, rfl⟩ := lss_ev (by rw [T.gn (by decide)]; exact T.gs) h4
    simp only [evOps, Option.some.injEq] at hx9
    refine ⟨x, ks, vs, ?_, hg, by simpa using hn, hx9.symm⟩
    simpa [T.get_set] using h9
theorem z_inv (hx : evOps C n0 cZ ⟨e, h, n⟩ = some s1) : ∃ x ks vs, e.get 9 = some (.m x) ∧ h.get x = some (.map ks vs) ∧
    s1 = ⟨((e.set 57 (.d (.sl ks))).set 58 (.d (.i .i64 (.ofNat ks.length)))).set 60 (.d (.b (decide (1 < ks.length)))), h, n⟩ := by
  obtain ⟨v, h', h1, _, hx1⟩ := one_ev rfl hx
  obtain ⟨x, ks, vs, h9, hg, rfl, rfl⟩ := keys_ev h1
  obtain ⟨v, h', h2, _, hx2⟩ := one_ev rfl hx1
  simp only [putE] at h2 hx2
  obtain ⟨rfl, rfl⟩ := len_ev T.gs h2
  obtain ⟨v, h', h3, _, hx3⟩ := one_ev rfl hx2
  simp only [putE] at h3 hx3
  obtain ⟨rfl, rfl⟩ := lss_ev T.gs h3
  simp only [evOps, Option.some.injEq] at hx3
  exact ⟨x, ks, vs, h9, hg, hx3.symm⟩
theorem u_inv (hx : evOps C n0 cU ⟨e, h, n⟩ = some s1) : s1 = ⟨((((e.set 57 .u).set 58 .u).set 60 .u).set 61 .u).set 62 .u, h, n⟩ := by
  have hx1 := u_ev hx
  have hx2 := u_ev hx1
  have hx3 := u_ev hx2
  have hx4 := u_ev hx3
  have hx5 := u_ev hx4
  simp only [evOps, Option.some.injEq] at hx5
  exact hx5.symm
theorem key_self {k : D} (h : isKey false k = true) : keyEq k k = some true := by
  cases k <;> simp [isKey] at h
  simp [keyEq]
theorem isKey_i {y : D} (h : isKey false y = true) : ∃ k m, y = .i k m := by
  cases y <;> simp [isKey] at h
  exact ⟨_, _, rfl⟩
theorem key_i {k : IntKind} {m : Int} {k0 : D} {v0 : AV} {r : Option AV} (h : lookA (.i k m) [k0] [v0] = some r) : ∃ k' m', k0 = .i k' m' := by
  cases k0 with
  | i k' m' => exact ⟨_, _, rfl⟩
  | _ => simp [lookA, keyEq] at h
theorem b1_inv {x : Nat} {k0 : D} {v0 : AV} (h9 : e.get 9 = some (.m x)) (h57 : e.get 57 = some (.d (.sl [k0]))) (hg : h.get x = some (.map [k0] [v0])) (hx : evOps C n0 cB1 ⟨e, h, n⟩ = some s1) :
    ∃ e3 h', isKey false k0 = true ∧ h.get (n0 + 3) = none ∧ e3 = ((((((((e.set 62 (.pe ((cellsD k0).map .d) 0)).set 43 (.d k0)).set 44 v0).set 57 .u).set 58 .u).set 60 .u).set 61 .u).set 62 .u) ∧
      evOp (.store 4 (.t 13) (.t 44)) ((e3.set 13 (.p (n0 + 3) 0)).set 12 (.d k0)) (h.set (n0 + 3) (.box zV0)) (n0 + 5) = some (.u, h') ∧ s1 = ⟨(e3.set 13 (.p (n0 + 3) 0)).set 12 (.d k0), h', n⟩ := by
  obtain ⟨v62, h62, a62, _, hx1⟩ := one_ev rfl hx
  have q62 : v62 = .pe ((cellsD k0).map .d) 0 ∧ h62 = h := by
    simp only [evOp, I0, Opd.ev, h57, Option.getD_some, natA, List.getElem?_cons_zero] at a62
    cases hc : (cellsD k0).length == 1 with
    | false => rw [hc] at a62; cases a62
    | true =>
      rw [hc] at a62
      simp only [cond_true, Option.some.injEq, Prod.mk.injEq] at a62
      exact ⟨a62.1.symm, a62.2.symm⟩
  obtain ⟨rfl, rfl⟩ := q62
  obtain ⟨v43, h43, a43, _, hx2⟩ := one_ev rfl hx1
  simp only [putE] at a43 hx2
  obtain ⟨v44, h44, a44, _, hx3⟩ := one_ev rfl hx2
  simp only [putE] at a44 hx3
  have q43 : v43 = (((cellsD k0).map AV.d)[0]?).getD .u ∧ h43 = h62 := by
    simp only [evOp, Opd.ev, T.gs, Option.getD_some, loadA, loadC] at a43
    cases hc : ((cellsD k0).map AV.d)[0]? with
    | none => rw [hc] at a43; cases a43
    | some y =>
      rw [hc] at a43
      simp only [Option.some.injEq, Prod.mk.injEq] at a43
      exact ⟨a43.1.symm, a43.2.symm⟩
  obtain ⟨rfl, rfl⟩ := q43
  have q44 : (∃ k m, k0 = .i k m) ∧ v44 = v0 ∧ h44 = h43 := by
    have e9 : (Opd.t 9).ev ((e.set 62 (.pe ((cellsD k0).map .d) 0)).set 43 ((((cellsD k0).map AV.d)[0]?).getD .u)) = .m x := by simp [Opd.ev, T.get_set, h9]
    have e43 : (Opd.t 43).ev ((e.set 62 (.pe ((cellsD k0).map .d) 0)).set 43 ((((cellsD k0).map AV.d)[0]?).getD .u)) = (((cellsD k0).map AV.d)[0]?).getD .u := by simp [Opd.ev, T.get_set]
    simp only [evOp, e9, e43, hg] at a44
    split at a44
    · rename_i y hy
      cases hiy : isKey false y with
      | false => simp [hiy] at a44
      | true =>
        simp only [hiy, cond_true] at a44
        obtain ⟨k, m, rfl⟩ := isKey_i hiy
        cases hl : lookA (.i k m) [k0] [v0] with
        | none => simp [hl] at a44
        | some r =>
          obtain ⟨k', m', rfl⟩ := key_i hl
          simp only [cellsD, List.map_cons, List.map_nil, List.getElem?_cons_zero, Option.getD_some, AV.d.injEq, D.i.injEq] at hy
          obtain ⟨rfl, rfl⟩ := hy
          simp only [lookA, keyEq, beq_self_eq_true, cond_true, Option.some.injEq] at hl
          subst hl
          simp only [lookA, keyEq, beq_self_eq_true, cond_true, cond_false, Option.some.injEq, Prod.mk.injEq] at a44
          exact ⟨⟨_, _, rfl⟩, a44.1.symm, a44.2.symm⟩
    · cases a44
  obtain ⟨⟨kk, mm, rfl⟩, rfl, rfl⟩ := q44
  have hx4 := u_ev hx3
  have hx5 := u_ev hx4
  have hx6 := u_ev hx5
  have hx7 := u_ev hx6
  have hx8 := u_ev hx7
  obtain ⟨v13, h13, a13, f13, hx9⟩ := one_ev rfl hx8
  simp only [evOp, Option.some.injEq, Prod.mk.injEq] at a13
  obtain ⟨rfl, rfl⟩ := a13
  simp only [putE] at hx9
  obtain ⟨v12, h12, a12, _, hx10⟩ := one_ev rfl hx9
  have q12 : v12 = .d (.i kk mm) ∧ h12 = h44.set (n0 + 3) (.box zV0) := by
    simp [evOp, Opd.ev, T.get_set, cellsD] at a12
    exact ⟨a12.1.symm, a12.2.symm⟩
  obtain ⟨rfl, rfl⟩ := q12
  simp only [putE] at hx10
  obtain ⟨vs, hs, as, _, hx11⟩ := one_ev rfl hx10
  have qs : vs = .u := by
    simp only [evOp] at as
    split at as
    · simp only [Option.some.injEq, Prod.mk.injEq] at as
      exact as.1.symm
    · cases as
  subst qs
  simp only [putE, evOps, Option.some.injEq] at hx11
  simp only [fresh, Option.isNone_iff_eq_none] at f13
  exact ⟨_, hs, rfl, f13, rfl, as, hx11.symm⟩
end
end Tm
/- A range over a map of at most one entry: the iterator is laid. No statement of the seat is proved here. -/
set_option linter.unusedVariables false
set_option linter.unusedSimpArgs false
namespace Tm
open Go
structure CfX (P : Program) (G : Nat → Option AV) (N : Nat) (r3 rn re : Array Oper) : Prop where
  hN : 45 ≤ N
  z3 : r3.size = 2
  zn : rn.size = 2
  ze : re.size = 6
  m0 : OpIs P G r3 0 (some 38) (.mv (.t 9))
  m1 : ∃ o t k el, r3[1]? = some o ∧ o.guard = none ∧ o.dst = some 39 ∧ o.op = .range t (.tmp 38) ∧ P.underlying t = some (.map k el)
  n0 : ∃ o, rn[0]? = some o ∧ o.guard = none ∧ o.dst = some 40 ∧ o.op = .next (.tmp 39) false
  n1 : OpIs P G rn 1 (some 41) (.ext (.t 40) 0)
  e0 : ∃ o, re[0]? = some o ∧ o.guard = none ∧ o.dst = some 42 ∧ o.op = .entry (.tmp 39)
  e1 : OpIs P G re 1 (some 43) (.ext (.t 42) 0)
  e2 : OpIs P G re 2 (some 44) (.ext (.t 42) 1)
  e3 : OpIs P G re 3 (some 13) (.alloc zV0)
  e4 : OpIs P G re 4 (some 12) (.mv (.t 43))
  e5 : OpIs P G re 5 none (.store 4 (.t 13) (.t 44))
section
variable {P : Program} {G : Nat → Option AV} {pu : Nat → Bool} {F : Nat → Option CFun} {I : Inj} {M : Mem} {a : Act} {Q : Exit → Act → World → Prop} {N : Nat}
theorem ER.tmp {e : Env} {tmps : Array Value} {t : Nat} {v : AV} (h : ER I M e tmps) (ht : e.get t = some v) : RV I M v (tmps.getD t undef) := by
  have := h t
  rwa [ht] at this
theorem eval_tmp {t : Nat} : a.eval (.tmp t) = a.tmps.getD t undef := by simp [Act.eval]
theorem put_eval {t : Nat} {u : Value} (h : t < a.tmps.size) : (a.put (some t) u).eval (.tmp t) = u := by simp [Act.put, Act.eval, h]
theorem RH.name {h : Heap} {k : Nat} {q : Pl} (hH : RH I M h) (hi : I k = none) (hk : h.get k = none) : RH (I.set k q) M h where
  wf := hH.wf
  lo := hH.lo
  ob := fun a ob p ha hp => by
    have hak : a ≠ k := by rintro rfl; rw [hk] at ha; cases ha
    have hp' : I a = some p := by simpa [Inj.set, hak] using hp
    obtain ⟨h1, h2, h3⟩ := hH.ob a ob p ha hp'
    exact ⟨h1, h2, h3.keep (Ext.refl M) (Inj.set_le _ hi) ⟨rfl, rfl⟩⟩
  inj := fun a a' ob ob' p p' ha ha' hp hp' hne => by
    have hak : a ≠ k := by rintro rfl; rw [hk] at ha; cases ha
    have hak' : a' ≠ k := by rintro rfl; rw [hk] at ha'; cases ha'
    exact hH.inj a a' ob ob' p p' ha ha' (by simpa [Inj.set, hak] using hp) (by simpa [Inj.set, hak'] using hp') hne
  cp := fun a ob p ha hp => by
    have hak : a ≠ k := by rintro rfl; rw [hk] at ha; cases ha
    exact hH.cp a ob p ha (by simpa [Inj.set, hak] using hp)
theorem RV.mapv {x : Nat} {u : Value} (r : RV I M (.m x) u) : ∃ q, I x = some q ∧ u = .map (some q.b) := by
  have := r.cellOf rfl
  simp only [RVc] at this
  obtain ⟨q, h1, h2⟩ := this
  simp only [List.cons.injEq, and_true] at h2
  exact ⟨q, h1, h2⟩
theorem RV.ptrv {y o : Nat} {u : Value} (r : RV I M (.p y o) u) : ∃ q, I y = some q ∧ u = .pointer (some ⟨q.b, q.o + o, none⟩) := by
  have := r.cellOf rfl
  simp only [RVc] at this
  obtain ⟨q, h1, h2⟩ := this
  simp only [List.cons.injEq, and_true] at h2
  exact ⟨q, h1, h2⟩
theorem run_range {w : World} {t k el : TypeId} {b : Nat} {es : Array MapEntry} {ck : Nat} (ht : P.underlying t = some (.map k el)) (hb : w.heap[b]? = some (.map es ck)) :
    (Instr.range t (.map (some b))).run P w = .ok (.pointer (some ⟨w.heap.size, 0, none⟩)) { w with heap := w.heap.push (.mapIter (some b) ck #[] ck) } := by
  simp only [Instr.range, Sem.run_bind, run_underlying ht, Result.andThen_ok, run_getObj hb, Sem.run_pure, run_newObj]
/-- What a map in memory is. -/
def IsMap (I : Inj) (M : Mem) (b : Nat) (ks : List D) (vs : List AV) (es : Array MapEntry) : Prop := M.w.heap[b]? = some (.map es es.size) ∧ RDs M.w M.fz ks (es.toList.map (·.key)) ∧ RVl I M vs (es.toList.map (·.val)) ∧ es.toList.map (·.born) = List.range es.size
theorem RH.map {h : Heap} {x : Nat} {q : Pl} {ks : List D} {vs : List AV} (hH : RH I M h) (hg : h.get x = some (.map ks vs)) (hq : I x = some q) : ∃ es, IsMap I M q.b ks vs es := by
  have := (hH.ob x _ q hg hq).2.2
  simp only [RO] at this
  obtain ⟨es, ck, h1, h2, h3, _, h5, rfl⟩ := this
  exact ⟨es, h1, h2, h3, h5⟩
/-- What the region ahead of the loop leaves. -/
structure Laid3 (G : Nat → Option AV) (I : Inj) (M : Mem) (a : Act) (s : St) (x : Nat) (ks : List D) (vs : List AV) (a2 : Act) (M2 : Mem) (I2 : Inj) (l : Nat) (q : Pl) (es : Array MapEntry) : Prop where
  pk : Pk G I M s.n I2 M2 (s.n + 9)
  er : ER I2 M2 ((s.e.set 38 (.m x)).set 39 (.p (s.n + 4) 0)) a2.tmps
  rh : RH I2 M2 s.h
  sz : a2.tmps.size = a.tmps.size
  df : a2.defers = a.defers
  hx : I2 x = some q
  hy : I2 (s.n + 4) = some ⟨l, 0, 0, 0⟩
  mp : IsMap I2 M2 q.b ks vs es
  it : M2.w.heap[l]? = some (.mapIter (some q.b) es.size #[] es.size)
  lo : M.w.heap.size ≤ l
theorem x_reg3 {r3 rn re : Array Oper} {id : Nat} {K : Act → World → Prop} (hK : CfX P G N r3 rn re) {s : St} {x : Nat} {ks : List D} {vs : List AV} (h9 : s.e.get 9 = some (.m x)) (hg : s.h.get x = some (.map ks vs)) (hfree : s.h.get (s.n + 4) = none)
    (hS : SR G I M s a) (hN : N ≤ a.tmps.size) (hf : Free I s.n) (hn : ∀ a2 M2 I2 l q es, Laid3 G I M a s x ks vs a2 M2 I2 l q es → K a2 M2.w) : (Code.region id r3 false).wp P (Exit.then K Q) a M.w := by
  have hN45 := hK.hN
  refine (wpIn_wide (n := 0)).1 (wp_range (l := [0, 1]) (by rw [hK.z3]; rfl) ?_)
  refine (Pk.start hf hS.g).step hK.m0 (e := s.e) (h := s.h) (h' := s.h) (v := .m x) (by simp [evOp, Opd.ev, h9]) hS.er hS.rh (fun t ht => by cases ht; omega) ?_
  intro u M1 I1 p1 l1 x1 H1 R1 E1
  obtain ⟨q, hq, rfl⟩ := R1.mapv
  obtain ⟨es, hes⟩ := H1.map hg hq
  obtain ⟨o, t, k, el, g1, g2, g3, g4, g5⟩ := hK.m1
  have hlo1 := H1.lo
  have hx2 := push_ext H1.wf H1.lo (.mapIter (some q.b) es.size #[] es.size) 0
  have hy1 : I1 (s.n + 4) = none := by
    rcases h : I1 (s.n + 4) with _ | z
    · rfl
    · rcases p1.new (s.n + 4) (by rw [h]; simp) with h' | h'
      · exact absurd (hf _ (by omega)) h'
      · omega
  refine opsIn_val (w' := (M1.push (.mapIter (some q.b) es.size #[] es.size) 0).w) (u := .pointer (some ⟨M1.w.heap.size, 0, none⟩)) g1 g2 (by rw [g4]; intro c h; cases h) ?_ ?_
  · simp only [execOp, g4, Sem.run_bind]
    rw [show (a.put (some 38) (Value.map (some q.b))).eval (.tmp 38) = .map (some q.b) from put_eval (by omega)]
    rw [run_range g5 hes.1]
    rfl
  have hle : Le I1 (I1.set (s.n + 4) ⟨M1.w.heap.size, 0, 0, 0⟩) := Inj.set_le _ hy1
  have hH2 : RH I1 (M1.push (.mapIter (some q.b) es.size #[] es.size) 0) s.h := H1.keep hx2 (fun a ob p ha hp => push_same (H1.ob a ob p ha hp).2.1) (push_wf H1.wf (by simp))
  have hsz : a.tmps.size = (a.put (some 38) (Value.map (some q.b))).tmps.size := by simp [put_size]
  have hqb := (Array.getElem?_eq_some_iff.1 hes.1).1
  rw [g3]
  refine hn _ (M1.push (.mapIter (some q.b) es.size #[] es.size) 0) (I1.set (s.n + 4) ⟨M1.w.heap.size, 0, 0, 0⟩) M1.w.heap.size q es ⟨⟨p1.ext.trans hx2, p1.le.trans hle, fun z hz => ?_, hf, by omega, hS.g⟩, ?_, hH2.name hy1 hfree, by simp [put_size], by simp [put_defers'], hle _ _ hq, Inj.set_same, ?_, push_at, p1.ext.size⟩
  · by_cases hzy : z = s.n + 4
    · exact .inr (by omega)
    · have : I1 z ≠ none := by simpa [Inj.set, hzy] using hz
      rcases p1.new z this with h | h
      · exact .inl h
      · exact .inr (by omega)
  · refine (ER.put (N := 0) (d := some 39) (a := a.put (some 38) (Value.map (some q.b))) (v := .p (s.n + 4) 0) (E1.ext hx2 hle) ?_ (fun t ht => by cases ht; rw [← hsz]; omega))
    refine RV.mk rfl ?_
    simp only [RVc]
    exact ⟨_, Inj.set_same, rfl⟩
  · refine ⟨?_, hes.2.1.ext hx2.e0, hes.2.2.1.ext hx2 hle, hes.2.2.2⟩
    rw [(push_same hqb).1]
    exact hes.1
end
end Tm
