/- The abstract machine on trees, part M. No statement of the seat is proved here. -/
import Derived.Test.YtnpmddhindidgaaGreatDoorTmK
set_option linter.unusedVariables false
set_option linter.unusedSimpArgs false
set_option linter.constructorNameAsVariable false
set_option linter.unusedSectionVars false
set_option linter.deprecated false
/- A range over a map of at most one entry: a step of the iterator. No statement of the seat is proved here. -/
set_option linter.unusedVariables false
set_option linter.unusedSimpArgs false
namespace Tm
open Go
section
variable {P : Program} {G : Nat → Option AV} {pu : Nat → Bool} {F : Nat → Option CFun} {I J : Inj} {M N : Mem} {a : Act} {Q : Exit → Act → World → Prop} {NN : Nat}
theorem Ext.toW {A B : Mem} (h : Ext A B) : ExtW A B := ⟨h.lo, h.low, h.fz, h.cells⟩
theorem ExtW.trans {A B C : Mem} (h : ExtW A B) (k : ExtW B C) : ExtW A C where
  lo := k.lo.trans h.lo
  low := fun b hb => (k.low b (by rw [h.lo]; exact hb)).trans (h.low b hb)
  fz := fun b => Nat.le_trans (h.fz b) (k.fz b)
  cells := fun b => by
    have e := congrArg (List.take (A.fz b)) (k.cells b)
    rw [List.take_take, List.take_take, Nat.min_eq_left (h.fz b)] at e
    exact e.trans (h.cells b)
theorem drewM_ext {w1 : World} (h : w1 = M.w ∨ w1 = M.w.drew) : Ext M ⟨w1, M.fz, M.lo⟩ ∧ ∀ b, Same M ⟨w1, M.fz, M.lo⟩ b := by
  rcases h with rfl | rfl
  · exact ⟨⟨rfl, rfl, rfl, rfl, Nat.le_refl _, fun _ _ => rfl, fun _ => Nat.le_refl _, fun _ _ => rfl, fun _ => rfl, fun _ _ h _ => h⟩, fun _ => ⟨rfl, rfl⟩⟩
  · exact ⟨⟨rfl, rfl, rfl, rfl, Nat.le_refl _, fun _ _ => rfl, fun _ => Nat.le_refl _, fun _ _ => rfl, fun _ => rfl, fun _ _ h _ => h⟩, fun _ => ⟨rfl, rfl⟩⟩
theorem next_over {r3 rn re : Array Oper} {id l b nb n : Nat} {K : Act → World → Prop} (hK : CfX P G NN r3 rn re) {e : Env} {h : Heap} {y since c0 ck : Nat} {seen : Array Nat} {es : Array MapEntry} (hp : Pk G I M nb J N n) (h39 : e.get 39 = some (.p y 0)) (hy : J y = some ⟨l, 0, 0, 0⟩)
    (it : N.w.heap[l]? = some (.mapIter (some b) since seen c0)) (hm : N.w.heap[b]? = some (.map es ck)) (hold : ∀ x ∈ es.toList, x.born < since) (hsc : since ≤ c0) (hall : ∀ x ∈ es.toList, seen.contains x.born = true)
    (hE : ER J N e a.tmps) (hH : RH J N h) (hN : NN ≤ a.tmps.size)
    (hn : ∀ a' M' I', Pk G I M nb I' M' (n + 1) → Ext N M' → Le J I' → ER I' M' ((e.set 40 (.tu [.d (.b false)])).set 41 (.d (.b false))) a'.tmps → RH I' M' h → a'.tmps.size = a.tmps.size → a'.defers = a.defers → a'.eval (.tmp 41) = .bool false → K a' M'.w) :
    (Code.region id rn false).wp P (Exit.then K Q) a N.w := by
  have hN45 := hK.hN
  obtain ⟨o, g1, g2, g3, g4⟩ := hK.n0
  refine (wpIn_wide (n := 0)).1 (wp_range (l := [0, 1]) (by rw [hK.zn]; rfl) ?_)
  have he : a.eval (.tmp 39) = .pointer (some ⟨l, 0, none⟩) := by
    obtain ⟨q, h1, h2⟩ := (hE.tmp h39).ptrv
    rw [hy] at h1
    cases h1
    rw [eval_tmp, h2]
  have hrun : (Instr.next (.pointer (some ⟨l, 0, none⟩)) false o.type).run P N.w = .ok (.tuple #[.bool false]) N.w := by
    rcases run_next_at N.w o.type l b since c0 seen es ck it hm hold hsc with ⟨_, h2⟩ | ⟨m, h1, _⟩
    · exact h2
    · exfalso
      unfold leftOf at h1
      simp at h1
      have := hall m (by simpa using h1.1)
      rw [Array.contains_iff_mem] at this
      exact h1.2 this
  refine opsIn_val (w' := N.w) (u := .tuple #[.bool false]) g1 g2 (by rw [g4]; intro c h; cases h) ?_ ?_
  · simp only [execOp, g4, Sem.run_bind, he, hrun]
    rfl
  rw [g3]
  have E1 : ER J N (e.set 40 (.tu [.d (.b false)])) (a.put (some 40) (.tuple #[.bool false])).tmps := by
    refine ER.put (N := 0) (d := some 40) (v := .tu [.d (.b false)]) hE ?_ (fun t ht => by cases ht; omega)
    refine .inr ⟨_, _, rfl, rfl, ?_⟩
    simp only [RTu]
    exact ⟨_, _, rfl, RV1.of rfl (by simp [RVc, RDc]), rfl⟩
  refine hp.step hK.n1 (e := e.set 40 (.tu [.d (.b false)])) (h := h) (h' := h) (v := .d (.b false)) (by simp [evOp, Opd.ev, T.gs]) E1 hH (fun t ht => by cases ht; simp [put_size]; omega) ?_
  intro u M' I' p1 l1 x1 H1 R1 E2
  have hu : u = .bool false := by rw [R1.bool]
  exact hn _ M' I' p1 x1 l1 E2 H1 (by simp [put_size]) (by simp [put_defers']) (by rw [put_eval (by simp [put_size]; omega), hu])
theorem next_one {r3 rn re : Array Oper} {id l b nb n : Nat} {K : Act → World → Prop} (hK : CfX P G NN r3 rn re) {e : Env} {h : Heap} {y : Nat} {e0 : MapEntry} (hp : Pk G I M nb J N n) (h39 : e.get 39 = some (.p y 0)) (hy : J y = some ⟨l, 0, 0, 0⟩)
    (it : N.w.heap[l]? = some (.mapIter (some b) 1 #[] 1)) (hm : N.w.heap[b]? = some (.map #[e0] 1)) (hb0 : e0.born = 0) (hlM : M.w.heap.size ≤ l) (hlo : M.lo ≤ M.w.heap.size) (hbl : b ≠ l)
    (hE : ER J N e a.tmps) (hH : RH J N h) (hN : NN ≤ a.tmps.size)
    (hn : ∀ a' M' I', Pk G I M nb I' M' (n + 1) → ExtW N M' → Le J I' → ER I' M' ((e.set 40 .u).set 41 (.d (.b true))) a'.tmps → RH I' M' h → a'.tmps.size = a.tmps.size → a'.defers = a.defers → a'.eval (.tmp 41) = .bool true →
      M'.w.heap[l]? = some (.mapIter (some b) 1 #[0] 1) → K a' M'.w) :
    (Code.region id rn false).wp P (Exit.then K Q) a N.w := by
  have hN45 := hK.hN
  obtain ⟨o, g1, g2, g3, g4⟩ := hK.n0
  refine (wpIn_wide (n := 0)).1 (wp_range (l := [0, 1]) (by rw [hK.zn]; rfl) ?_)
  have he : a.eval (.tmp 39) = .pointer (some ⟨l, 0, none⟩) := by
    obtain ⟨q, h1, h2⟩ := (hE.tmp h39).ptrv
    rw [hy] at h1
    cases h1
    rw [eval_tmp, h2]
  have hrun : ∃ w1 : World, (w1 = N.w ∨ w1 = N.w.drew) ∧ (Instr.next (.pointer (some ⟨l, 0, none⟩)) false o.type).run P N.w = .ok (.tuple #[.bool true, e0.key, e0.val]) (ChangeMaps.setBlock w1 l (.mapIter (some b) 1 #[0] 1)) := by
    rcases run_next_at N.w o.type l b 1 1 #[] #[e0] 1 it hm (fun x hx => by simp at hx; subst hx; omega) (Nat.le_refl _) with ⟨h1, _⟩ | ⟨m, h1, w1, h2, h3⟩
    · exfalso
      simp [leftOf] at h1
    · have : m = e0 := by simpa [leftOf] using h1
      subst this
      refine ⟨w1, h2, ?_⟩
      rw [h3, hb0]
      rfl
  obtain ⟨w1, hw1, hrun⟩ := hrun
  obtain ⟨xd, sd⟩ := drewM_ext hw1
  have itd : (⟨w1, N.fz, N.lo⟩ : Mem).w.heap[l]? = some (.mapIter (some b) 1 #[] 1) := (sd l).1.trans it
  have hHd : RH J ⟨w1, N.fz, N.lo⟩ h := hH.keep xd (fun _ _ _ _ _ => sd _) (fun b => by
    have : cellsOf w1 b = cellsOf N.w b := by unfold cellsOf; rw [(sd b).1]
    show N.fz b ≤ (cellsOf w1 b).length
    rw [this]
    exact hH.wf b)
  have hpo := putO_rel (o' := .mapIter (some b) 1 #[0] 1) hHd itd rfl rfl (by show N.lo ≤ l; rw [hp.ext.lo]; omega)
  have hx3 : Ext M (Mem.putO ⟨w1, N.fz, N.lo⟩ l (.mapIter (some b) 1 #[0] 1)) := putO_ext (hp.ext.trans xd) hlM hlo itd rfl rfl
  have hXW : ExtW N (Mem.putO ⟨w1, N.fz, N.lo⟩ l (.mapIter (some b) 1 #[0] 1)) := ⟨rfl, fun b hb => (hpo.2.1 b hb).trans (xd.low b hb), fun _ => Nat.le_refl _, fun b => by
    rw [hpo.2.2.1]
    exact xd.cells b⟩
  have hat : (Mem.putO ⟨w1, N.fz, N.lo⟩ l (.mapIter (some b) 1 #[0] 1)).w.heap[l]? = some (.mapIter (some b) 1 #[0] 1) := World.putObj_heap_same (Array.getElem?_eq_some_iff.1 itd).1
  refine opsIn_val (w' := (Mem.putO ⟨w1, N.fz, N.lo⟩ l (.mapIter (some b) 1 #[0] 1)).w) (u := .tuple #[.bool true, e0.key, e0.val]) g1 g2 (by rw [g4]; intro c h; cases h) ?_ ?_
  · simp only [execOp, g4, Sem.run_bind, he, hrun]
    rfl
  rw [g3]
  generalize hM3 : Mem.putO ⟨w1, N.fz, N.lo⟩ l (.mapIter (some b) 1 #[0] 1) = M3 at *
  have p3 : Pk G I M nb J M3 n := ⟨hx3, hp.le, hp.new, hp.fr, hp.nn, hp.g⟩
  have E1 : ER J M3 (e.set 40 (.tu [.d (.b true), .u, .u])) (a.put (some 40) (.tuple #[.bool true, e0.key, e0.val])).tmps := by
    refine ER.put (N := 0) (d := some 40) (v := .tu [.d (.b true), .u, .u]) (fun t => (hE t).extW hXW (Le.refl J)) ?_ (fun t ht => by cases ht; omega)
    refine .inr ⟨_, _, rfl, rfl, ?_⟩
    simp only [RTu]
    exact ⟨_, _, rfl, RV1.of rfl (by simp [RVc, RDc]), _, _, rfl, .inl rfl, _, _, rfl, .inl rfl, rfl⟩
  refine p3.step hK.n1 (e := e.set 40 (.tu [.d (.b true), .u, .u])) (h := h) (h' := h) (v := .d (.b true)) (by simp [evOp, Opd.ev, T.gs]) E1 hpo.1 (fun t ht => by cases ht; simp [put_size]; omega) ?_
  intro u M' I' p1 l1 x1 H1 R1 E2
  have hu : u = .bool true := by rw [R1.bool]
  refine hn _ M' I' p1 (hXW.trans x1.toW) l1 (fun t => ?_) H1 (by simp [put_size]) (by simp [put_defers']) (by rw [put_eval (by simp [put_size]; omega), hu]) (x1.oth l _ hat rfl)
  have := E2 t
  simp only [putE, T.get_set] at this ⊢
  by_cases h41 : t = 41
  · rw [if_pos h41] at this ⊢; exact this
  · rw [if_neg h41] at this ⊢
    by_cases h40 : t = 40
    · rw [if_pos h40]; exact RV.undef
    · rw [if_neg h40] at this ⊢; exact this
end
end Tm
/- A range over a map of at most one entry: the round's head; the machine's branches. No statement of the seat is proved here. -/
set_option linter.unusedVariables false
set_option linter.unusedSimpArgs false
namespace Tm
open Go
section
variable {P : Program} {G : Nat → Option AV} {pu : Nat → Bool} {F : Nat → Option CFun} {I J : Inj} {M N : Mem} {a : Act} {Q : Exit → Act → World → Prop} {NN : Nat}
theorem ER.le {e e' : Env} {tmps : Array Value} (h : ER I M e tmps) (hx : ∀ t, e'.get t = e.get t ∨ e'.get t = some .u) : ER I M e' tmps := fun t => by
  rcases hx t with h1 | h1
  · rw [h1]; exact h t
  · rw [h1]; exact RV.undef
theorem one_map {b : Nat} {k0 : D} {v0 : AV} {es : Array MapEntry} (h : IsMap I M b [k0] [v0] es) : ∃ e0, es = #[e0] ∧ e0.born = 0 ∧ RDc M.w M.fz k0 [e0.key] ∧ nAg k0 = true ∧ RV1 I M v0 e0.val := by
  obtain ⟨h1, h2, h3, h4⟩ := h
  have hs : es.size = 1 := by have := h2.len; simpa using this
  obtain ⟨l⟩ := es
  cases l with
  | nil => simp at hs
  | cons e0 r =>
    cases r with
    | cons _ _ => simp at hs
    | nil =>
      refine ⟨e0, rfl, ?_, ?_⟩
      · have h5 : [e0.born] = List.range 1 := h4
        rw [List.range_one] at h5
        simpa using h5
      · simp only [List.map_cons, List.map_nil, RDs] at h2
        simp only [List.map_cons, List.map_nil, RVl] at h3
        obtain ⟨v, r, e1, h6, h7, _⟩ := h2
        obtain ⟨v', r', e2, h8, _⟩ := h3
        simp only [List.cons.injEq] at e1 e2
        obtain ⟨rfl, rfl⟩ := e1
        obtain ⟨rfl, rfl⟩ := e2
        exact ⟨h7, h6, h8⟩
theorem no_map {b : Nat} {es : Array MapEntry} (h : IsMap I M b [] [] es) : es = #[] := by
  have := h.2.1.len
  simp at this
  exact this
theorem map_len {b : Nat} {ks : List D} {vs : List AV} {es : Array MapEntry} (h : IsMap I M b ks vs es) : es.size = ks.length := by
  have := h.2.1.len
  simpa using this
theorem map_vs : ∀ {ks : List D} {vs : List AV} {es : List MapEntry}, RDs M.w M.fz ks (es.map (·.key)) → RVl I M vs (es.map (·.val)) → vs.length = ks.length := by
  intro ks vs es h1 h2
  have e1 := h1.len
  have e2 : ∀ {vs : List AV} {cs : List Value}, RVl I M vs cs → cs.length = vs.length := by
    intro vs
    induction vs with
    | nil => intro cs h; simp only [RVl] at h; simp [h]
    | cons x l ih =>
      intro cs h
      simp only [RVl] at h
      obtain ⟨v, r, rfl, _, h3⟩ := h
      simp [ih h3]
  have := e2 h2
  simp at e1 this
  omega
theorem x_entry {r3 rn re : Array Oper} {id l nb n0 : Nat} {K : Act → World → Prop} (hK : CfX P G NN r3 rn re) {e : Env} {h h' : Heap} {x y : Nat} {k0 : D} {v0 : AV} {q : Pl} {e3 : Env} (hp : Pk G I M nb J N (n0 + 1)) (h39 : e.get 39 = some (.p y 0)) (hy : J y = some ⟨l, 0, 0, 0⟩) (hx : J x = some q)
    (hg : h.get x = some (.map [k0] [v0])) (it : N.w.heap[l]? = some (.mapIter (some q.b) 1 #[0] 1)) (hE : ER J N e a.tmps) (hH : RH J N h) (hN : NN ≤ a.tmps.size)
    (h44 : e3.get 44 = some v0) (hst : evOp (.store 4 (.t 13) (.t 44)) ((e3.set 13 (.p (n0 + 3) 0)).set 12 (.d k0)) (h.set (n0 + 3) (.box zV0)) (n0 + 5) = some (.u, h'))
    (hn : ∀ a' M' I', Pk G I M nb I' M' (n0 + 6) → Ext N M' → Le J I' → ER I' M' (((((e.set 42 .u).set 43 (.d k0)).set 44 v0).set 13 (.p (n0 + 3) 0)).set 12 (.d k0)) a'.tmps → RH I' M' h' → a'.tmps.size = a.tmps.size → a'.defers = a.defers → K a' M'.w) :
    (Code.region id re false).wp P (Exit.then K Q) a N.w := by
  have hN45 := hK.hN
  obtain ⟨o, g1, g2, g3, g4⟩ := hK.e0
  obtain ⟨es, hes⟩ := hH.map hg hx
  obtain ⟨e0, rfl, hb0, hk, hna, hv⟩ := one_map hes
  refine (wpIn_wide (n := 0)).1 (wp_range (l := [0, 1, 2, 3, 4, 5]) (by rw [hK.ze]; rfl) ?_)
  have he : a.eval (.tmp 39) = .pointer (some ⟨l, 0, none⟩) := by
    obtain ⟨q', h1, h2⟩ := (hE.tmp h39).ptrv
    rw [hy] at h1
    cases h1
    rw [eval_tmp, h2]
  have hrun : (Instr.entry (.pointer (some ⟨l, 0, none⟩))).run P N.w = .ok (.tuple #[e0.key, e0.val]) N.w :=
    run_entry_at N.w l q.b 1 #[] #[e0] 1 e0 (by rw [hb0]; exact it) hes.1 (by simp) (by simp)
  refine opsIn_val (w' := N.w) (u := .tuple #[e0.key, e0.val]) g1 g2 (by rw [g4]; intro c h; cases h) ?_ ?_
  · simp only [execOp, g4, Sem.run_bind, he, hrun]
    rfl
  rw [g3]
  have E1 : ER J N (e.set 42 (.tu [.d k0, v0])) (a.put (some 42) (.tuple #[e0.key, e0.val])).tmps := by
    refine ER.put (N := 0) (d := some 42) (v := .tu [.d k0, v0]) hE ?_ (fun t ht => by cases ht; omega)
    refine .inr ⟨_, _, rfl, rfl, ?_⟩
    simp only [RTu]
    exact ⟨_, _, rfl, RV1.of (by cases k0 <;> first | rfl | simp [nAg] at hna) (by simpa only [RVc] using hk), _, _, rfl, hv, rfl⟩
  refine (hp : Pk G I M nb J N (n0 + 1)).step hK.e1 (e := e.set 42 (.tu [.d k0, v0])) (h := h) (h' := h) (v := .d k0) (by simp [evOp, Opd.ev, T.gs]) E1 hH (fun t ht => by cases ht; simp [put_size]; omega) ?_
  intro u1 M1 I1 p1 l1 x1 H1 R1 E2
  refine p1.step hK.e2 (h := h) (h' := h) (v := v0) (by simp [evOp, Opd.ev, putE, T.get_set]) E2 H1 (fun t ht => by cases ht; simp [put_size]; omega) ?_
  intro u2 M2 I2 p2 l2 x2 H2 R2 E3
  refine p2.step hK.e3 (h := h) (h' := h.set (n0 + 3) (.box zV0)) (v := .p (n0 + 3) 0) (by simp [evOp]) E3 H2 (fun t ht => by cases ht; simp [put_size]; omega) ?_
  intro u3 M3 I3 p3 l3 x3 H3 R3 E4
  refine p3.step hK.e4 (h := h.set (n0 + 3) (.box zV0)) (h' := h.set (n0 + 3) (.box zV0)) (v := .d k0) (by simp [evOp, Opd.ev, putE, T.get_set]) E4 H3 (fun t ht => by cases ht; simp [put_size]; omega) ?_
  intro u4 M4 I4 p4 l4 x4 H4 R4 E5
  refine p4.step hK.e5 (h := h.set (n0 + 3) (.box zV0)) (h' := h') (v := .u) (by
    rw [← hst]
    refine evOp_congr fun t ht => ?_
    simp only [COp.ts, Opd.ts, List.mem_append, List.mem_singleton] at ht
    rcases ht with rfl | rfl
    · simp [putE, T.get_set]
    · simp [putE, T.get_set, h44]) E5 H4 (fun t ht => by cases ht) ?_
  intro u5 M5 I5 p5 l5 x5 H5 R5 E6
  refine hn _ M5 I5 p5 (((x1.trans x2).trans x3).trans (x4.trans x5)) (((l1.trans l2).trans l3).trans (l4.trans l5)) (ER.le E6 fun t => ?_) H5 (by simp [put_size]) (by simp [put_defers'])
  simp only [putE, T.get_set]
  by_cases h42 : t = 42
  · subst h42; right; simp
  · left; simp [h42]
/-! ### The machine's branches -/
theorem cond_bad {k : Nat} {c : Opd} {b : CCode} {s : St} (h : ev F k (.seq (.cond c .bad .skip) b) s ≠ .bad) : c.ev s.e = .d (.b false) ∧ ∃ j, j < k ∧ ev F k (.seq (.cond c .bad .skip) b) s = ev F j b s := by
  obtain ⟨j, rfl, h1, h2⟩ := ev_seq h
  cases j with
  | zero => exact absurd rfl h1
  | succ m =>
    have hev : ev F (m + 1) (.cond c .bad .skip) s = (match c.ev s.e with | .d (.b true) => ev F m .bad s | .d (.b false) => ev F m .skip s | _ => .bad) := rfl
    rw [hev] at h1 h2
    split at h1
    · cases m <;> exact absurd rfl h1
    · rename_i hc
      rw [hc] at h2
      refine ⟨hc, m + 1, by omega, ?_⟩
      cases m with
      | zero => exact absurd rfl h1
      | succ m =>
        rcases h2 with ⟨s1, h5, h6⟩ | ⟨h5, _⟩
        · have h7 : Out.nor s = .nor s1 := h5
          cases h7
          exact h6
        · exact absurd rfl (h5 s)
    · exact absurd rfl h1
theorem cond_inv {k : Nat} {c : Opd} {x y : CCode} {s : St} (h : ev F k (.cond c x y) s ≠ .bad) : (c.ev s.e = .d (.b true) ∧ ∃ j, j < k ∧ ev F k (.cond c x y) s = ev F j x s) ∨ (c.ev s.e = .d (.b false) ∧ ∃ j, j < k ∧ ev F k (.cond c x y) s = ev F j y s) := by
  cases k with
  | zero => exact absurd rfl h
  | succ m =>
    have hev : ev F (m + 1) (.cond c x y) s = (match c.ev s.e with | .d (.b true) => ev F m x s | .d (.b false) => ev F m y s | _ => .bad) := rfl
    rw [hev] at h ⊢
    split at h
    · rename_i hc; exact .inl ⟨hc, m, by omega, rfl⟩
    · rename_i hc; exact .inr ⟨hc, m, by omega, rfl⟩
    · exact absurd rfl h
end
end Tm
/- A range over a map of at most one entry: the program's code by the machine's. No statement of the seat is proved here. -/
set_option linter.unusedVariables false
set_option linter.unusedSimpArgs false
namespace Tm
open Go
section
variable {P : Program} {G : Nat → Option AV} {pu : Nat → Bool} {F : Nat → Option CFun}
def cdX (j3 jn je : Nat) (r3 rn re : Array Oper) (B : Code) : Code := .seq (.region j3 r3 false) (.block 2 (.loop (.seq (.region jn rn false) (.seq (.cond (.tmp 41) .skip (.exit 2)) (.block 3 (.seq (.region je re false) B))))))
theorem u_run {k : Nat} {s : St} (h : ev F k (.reg 5 cU) s ≠ .bad) : ev F k (.reg 5 cU) s = .nor ⟨((((s.e.set 57 .u).set 58 .u).set 60 .u).set 61 .u).set 62 .u, s.h, s.n + 5⟩ := by
  obtain ⟨j, s1, rfl, h1, h2⟩ := ev_reg h
  rw [h2, u_inv h1]
theorem x_end {I J : Inj} {M N : Mem} {s s5 : St} {a a6 : Act} {m : Nat} {e6 : Env} (hp : Pk G I M s.n J N m) (hm : m ≤ s5.n) (hE : ER J N e6 a6.tmps) (hH : RH J N s5.h) (hle : ∀ t, s5.e.get t = e6.get t ∨ s5.e.get t = some .u) (hsz : a6.tmps.size = a.tmps.size) (hdf : a6.defers = a.defers) : Rch G I M s.n a a6 N.w s5 :=
  ⟨J, N, rfl, hp.ext, hp.le, fun x hx => (hp.new x hx).imp id fun h => ⟨h.1, by omega⟩, ⟨ER.le hE hle, hH, hp.gg⟩, hsz, hdf, Nat.le_trans hp.nn hm⟩
set_option maxHeartbeats 4000000 in
theorem simu_x {k j N : Nat} {r3 rn re : Array Oper} {j3 jn je : Nat} {B : Code} (hcode : CodeOK P G pu F k) (hj : j ≤ k) (hK : CfX P G N r3 rn re) (t9 : stays 9 (comp P G pu N B) = true) (t39 : stays 39 (comp P G pu N B) = true) (t40 : stays 40 (comp P G pu N B) = true) (t41 : stays 41 (comp P G pu N B) = true) :
    Simu P G F N j (cfX (comp P G pu N B)) (cdX j3 jn je r3 rn re B) := by
  intro s hb I M a hS hN hf
  unfold cfX at hb ⊢
  obtain ⟨s1, k1, _, ⟨i1, _, z1⟩, lt1, e1⟩ := reg_seq' hb
  rw [e1] at hb ⊢
  obtain ⟨x, ks, vs, h9, hg, hfree, hs1⟩ := x1_inv z1
  obtain ⟨c60, k2, lt2, e2⟩ := cond_bad hb
  rw [e2] at hb ⊢
  have hlen : ks.length ≤ 1 := by
    rw [hs1] at c60
    simp [Opd.ev, T.get_set] at c60
    exact c60
  unfold cdX
  refine wp_seq (x_reg3 hK h9 hg hfree hS hN hf fun a2 M2 I2 l q es L => ?_)
  have hesl : es.size = ks.length := map_len L.mp
  have hvsl : vs.length = ks.length := map_vs L.mp.2.1 L.mp.2.2.1
  refine wp_block (wp_loop_rounds 2 ?_)
  rw [rounds_succ]
  rcases cond_inv hb with ⟨c61, k3, lt3, e3⟩ | ⟨c61, k3, lt3, e3⟩
  · -- one entry
    rw [e3] at hb ⊢
    have hpos : 0 < ks.length := by
      rw [hs1] at c61
      simp [Opd.ev, T.get_set] at c61
      exact c61
    obtain ⟨k0, rfl⟩ : ∃ k0, ks = [k0] := List.length_eq_one_iff.1 (by omega)
    obtain ⟨v0, rfl⟩ : ∃ v0, vs = [v0] := List.length_eq_one_iff.1 (by simpa using hvsl)
    obtain ⟨e0, rfl, hb0, _⟩ := one_map L.mp
    obtain ⟨s2, k4, _, ⟨i2, _, z2⟩, lt4, e4⟩ := reg_seq' hb
    rw [e4] at hb ⊢
    have hs1n : s1.n = s.n + 9 := by rw [hs1]
    have hs1h : s1.h = s.h := by rw [hs1]
    obtain ⟨e3', h', hkey, hfree3, he3, hst, hs2⟩ := b1_inv (x := x) (k0 := k0) (v0 := v0) (by rw [hs1]; simp [T.get_set, h9]) (by rw [hs1]; simp [T.get_set]) (by rw [hs1h]; exact hg) z2
    rw [hs1n, hs1h] at hst
    have hqb := L.mp.1
    refine wp_seq (next_one hK (h := s.h) L.pk (by simp [T.get_set]) L.hy L.it hqb hb0 L.lo hS.rh.lo (fun e => ?_) L.er L.rh (by rw [L.sz]; exact hN) fun a3 M3 I3 p3 xw3 le3 E3 H3 sz3 df3 ev41 it3 => ?_)
    · rw [e, L.it] at hqb; cases hqb
    refine wp_seq (wp_cond_true ev41 (wp_skip ?_))
    refine wp_block (wp_seq (x_entry (n0 := s.n + 9) (e3 := e3') hK p3 (by simp [T.get_set]) (le3 _ _ L.hy) (le3 _ _ L.hx) hg it3 E3 H3 (by rw [sz3, L.sz]; exact hN) (by rw [he3]; simp [T.get_set]) hst fun a4 M4 I4 p4 x4 l4 E4 H4 sz4 df4 => ?_))
    have it4 := x4.oth l _ it3 rfl
    obtain ⟨k5, hk5, hBB, hor⟩ := ev_seq hb
    have hs2n : s2.n = s.n + 15 := by rw [hs2, hs1n]
    have hs2e : ∀ t, s2.e.get t = ((((((((((s.e.set 38 (.m x)).set 39 (.p (s.n + 4) 0)).set 40 .u).set 41 (.d (.b true))).set 42 .u).set 43 (.d k0)).set 44 v0).set 13 (.p (s.n + 9 + 3) 0)).set 12 (.d k0))).get t ∨ s2.e.get t = some .u := by
      intro t
      rw [hs2, he3, hs1]
      by_cases hU : t ∈ ([38, 40, 41, 42, 57, 58, 60, 61, 62] : List Nat)
      · right
        simp only [List.mem_cons, List.not_mem_nil, or_false] at hU
        rcases hU with rfl | rfl | rfl | rfl | rfl | rfl | rfl | rfl | rfl <;> simp [T.get_set]
      · left
        simp only [List.mem_cons, List.not_mem_nil, or_false, not_or] at hU
        obtain ⟨u38, u40, u41, u42, u57, u58, u60, u61, u62⟩ := hU
        simp only [T.get_set, if_neg u38, if_neg u40, if_neg u41, if_neg u42, if_neg u57, if_neg u58, if_neg u60, if_neg u61, if_neg u62]
    have hS4 : SR G I4 M4 s2 a4 := ⟨ER.le E4 hs2e, by rw [hs2]; exact H4, p4.gg⟩
    have hN4 : N ≤ a4.tmps.size := by rw [sz4, sz3, L.sz]; exact hN
    have hf4 : Free I4 s2.n := by rw [hs2n]; exact p4.new.free hf p4.nn
    have g9 : s2.e.get 9 = some (.m x) := by rw [hs2, he3, hs1]; simp [T.get_set, h9]
    have g39 : s2.e.get 39 = some (.p (s.n + 4) 0) := by rw [hs2, he3, hs1]; simp [T.get_set]
    have g40 : s2.e.get 40 = some .u := by rw [hs2, he3, hs1]; simp [T.get_set]
    have g41 : s2.e.get 41 = some .u := by rw [hs2, he3, hs1]; simp [T.get_set]
    refine wp_mono (simu_comp hcode (by omega : k5 ≤ k) s2 hBB I4 M4 a4 hS4 hN4 hf4) fun ex a5 w5 ho => ?_
    rcases hor with ⟨s3, h3, e5⟩ | ⟨h3, e5⟩
    · -- the round goes on
      rw [h3] at ho
      cases ex with
      | normal =>
        obtain ⟨I5, M5, R5⟩ := ho
        have hw := R5.w
        subst hw
        rw [e5] at hb ⊢
        obtain ⟨s4, k6, _, ⟨i6, _, z6⟩, lt6, e6⟩ := reg_seq' hb
        rw [e6] at hb ⊢
        obtain ⟨x', ks', vs', h9', hg', hs4⟩ := z_inv z6
        obtain ⟨c60', k7, lt7, e7⟩ := cond_bad hb
        rw [e7] at hb ⊢
        rw [u_run hb]
        have hlen' : ks'.length ≤ 1 := by
          rw [hs4] at c60'
          simp [Opd.ev, T.get_set] at c60'
          exact c60'
        have f9 := (ev_stays k5 _ s2 t9).1 s3 h3
        have f39 := (ev_stays k5 _ s2 t39).1 s3 h3
        have f40 := (ev_stays k5 _ s2 t40).1 s3 h3
        have f41 := (ev_stays k5 _ s2 t41).1 s3 h3
        rw [g9] at f9
        rw [g39] at f39
        rw [g40] at f40
        rw [g41] at f41
        have hxx : x' = x := by rw [f9] at h9'; cases h9'; rfl
        subst hxx
        have hq5 : I5 x' = some q := R5.le _ _ (l4 _ _ (le3 _ _ L.hx))
        obtain ⟨es', hes'⟩ := R5.sr.rh.map hg' hq5
        have hes1 : es'.size ≤ 1 := by rw [map_len hes']; exact hlen'
        have hborn : ∀ m ∈ es'.toList, m.born = 0 := by
          intro m hm
          have : m.born ∈ es'.toList.map (·.born) := List.mem_map_of_mem hm
          rw [hes'.2.2.2] at this
          have := List.mem_range.1 this
          omega
        have p5 : Pk G I M s.n I5 M5 s3.n := ⟨p4.ext.trans R5.ext, p4.le.trans R5.le, fun z hz => by
          have := R5.n
          rcases R5.new z hz with h | h
          · rcases p4.new z h with h | h
            · exact .inl h
            · exact .inr (by omega)
          · exact .inr (by omega), hf, by have := R5.n; omega, hS.g⟩
        show Code.rounds P _ _ 1 a5 M5.w
        rw [rounds_succ]
        refine wp_seq (next_over hK (h := s3.h) p5 f39 (R5.le _ _ (l4 _ _ (le3 _ _ L.hy))) (R5.ext.oth l _ it4 rfl) hes'.1 (fun m hm => by rw [hborn m hm]; omega) (Nat.le_refl _) (fun m hm => by rw [hborn m hm]; simp) R5.sr.er R5.sr.rh (by rw [R5.sz]; exact hN4) fun a6 M6 I6 p6 x6 l6 E6 H6 sz6 df6 ev6 => ?_)
        refine wp_seq (wp_cond_false ev6 (wp_exit ?_))
        simp only [Exit.then, Exit.inBlock, if_true, ↓reduceIte]
        refine x_end p6 (by rw [hs4]; show s3.n + 1 ≤ s3.n + 3 + 5; omega) E6 (by rw [hs4]; exact H6) (fun t => ?_) (by rw [sz6, R5.sz, sz4, sz3, L.sz]) (by rw [df6, R5.df, df4, df3, L.df])
        rw [hs4]
        by_cases hU : t ∈ ([40, 41, 57, 58, 60, 61, 62] : List Nat)
        · right
          simp only [List.mem_cons, List.not_mem_nil, or_false] at hU
          rcases hU with rfl | rfl | rfl | rfl | rfl | rfl | rfl <;> simp [T.get_set, f40, f41]
        · left
          simp only [List.mem_cons, List.not_mem_nil, or_false, not_or] at hU
          obtain ⟨u40, u41, u57, u58, u60, u61, u62⟩ := hU
          simp only [T.get_set, if_neg u40, if_neg u41, if_neg u57, if_neg u58, if_neg u60, if_neg u61, if_neg u62]
      | _ => exact absurd ho (by simp [OutOK])
    · -- it returns
      rw [e5]
      cases hr : ev F k5 (comp P G pu N B) s2 with
      | nor s3 => exact absurd hr (h3 s3)
      | ex i s3 => exact absurd hr ((ev_stays k5 _ s2 t9).2 i s3)
      | bad => exact absurd hr hBB
      | rt s3 =>
        rw [hr] at ho
        cases ex with
        | ret =>
          obtain ⟨I5, M5, R5⟩ := ho
          have hw := R5.w
          subst hw
          simp only [Exit.then, Exit.inBlock]
          refine ⟨I5, M5, rfl, p4.ext.trans R5.ext, p4.le.trans R5.le, fun z hz => ?_, R5.sr, by rw [R5.sz, sz4, sz3, L.sz], by rw [R5.df, df4, df3, L.df], by have := R5.n; omega⟩
          have := R5.n
          rcases R5.new z hz with h | h
          · rcases p4.new z h with h | h
            · exact .inl h
            · exact .inr (by omega)
          · exact .inr (by omega)
        | _ => exact absurd ho (by simp [OutOK])
  · -- no entry
    rw [e3] at hb ⊢
    have hz : ks.length = 0 := by
      rw [hs1] at c61
      simp [Opd.ev, T.get_set] at c61
      simp [c61]
    obtain rfl := List.eq_nil_of_length_eq_zero hz
    obtain rfl := List.eq_nil_of_length_eq_zero (hvsl.trans hz)
    have hes0 := no_map L.mp
    subst hes0
    rw [u_run hb]
    refine wp_seq (next_over hK (h := s.h) L.pk (by simp [T.get_set]) L.hy L.it L.mp.1 (fun m hm => by simp at hm) (Nat.le_refl _) (fun m hm => by simp at hm) L.er L.rh (by rw [L.sz]; exact hN) fun a6 M6 I6 p6 x6 l6 E6 H6 sz6 df6 ev6 => ?_)
    refine wp_seq (wp_cond_false ev6 (wp_exit ?_))
    simp only [Exit.then, Exit.inBlock, if_true, ↓reduceIte]
    refine x_end p6 (by rw [hs1]; show s.n + 9 + 1 ≤ s.n + 9 + 5; omega) E6 (by rw [hs1]; exact H6) (fun t => ?_) (by rw [sz6, L.sz]) (by rw [df6, L.df])
    rw [hs1]
    by_cases hU : t ∈ ([38, 40, 41, 42, 57, 58, 60, 61, 62] : List Nat)
    · right
      simp only [List.mem_cons, List.not_mem_nil, or_false] at hU
      rcases hU with rfl | rfl | rfl | rfl | rfl | rfl | rfl | rfl | rfl <;> simp [T.get_set]
    · left
      simp only [List.mem_cons, List.not_mem_nil, or_false, not_or] at hU
      obtain ⟨u38, u40, u41, u42, u57, u58, u60, u61, u62⟩ := hU
      simp only [T.get_set, if_neg u38, if_neg u40, if_neg u41, if_neg u42, if_neg u57, if_neg u58, if_neg u60, if_neg u61, if_neg u62]
/-- Parts of an operation. -/
def rgT (o : Op) : TypeId := match o with | .range t _ => t | _ => 0
def mpK (P : Program) (t : TypeId) : TypeId := match P.underlying t with | some (.map k _) => k | _ => 0
def mpE (P : Program) (t : TypeId) : TypeId := match P.underlying t with | some (.map _ e) => e | _ => 0
/-- The whole function. -/
theorem spec_cf {k g : Nat} {fn : Func} {j3 jn je : Nat} {a0 a1 al B a4 : Code} {r3 rn re : Array Oper} {pr x y z : Bool} (hcode : CodeOK P G pu F k) (h1 : P.funcs[g]? = some fn) (h2 : (fn.name == "runtime.NumGoroutine") = false) (h3 : fn.body = some (.seq a0 (.seq a1 (.seq al (.seq (cdX j3 jn je r3 rn re B) a4))))) (h4 : compR P fn.results.toList = some [(.t 8, none)])
    (hK : CfX P G fn.ntmps r3 rn re) (t9 : stays 9 (comp P G pu fn.ntmps B) = true) (t39 : stays 39 (comp P G pu fn.ntmps B) = true) (t40 : stays 40 (comp P G pu fn.ntmps B) = true) (t41 : stays 41 (comp P G pu fn.ntmps B) = true) :
    RunOK P G F k g ⟨[(.t 8, none)], .seq (comp P G pu fn.ntmps a0) (.seq (comp P G pu fn.ntmps a1) (.seq (comp P G pu fn.ntmps al) (.seq (cfX (comp P G pu fn.ntmps B)) (comp P G pu fn.ntmps a4)))), pr, x, y, z⟩ := by
  refine run_of_simu h1 h2 h3 h4 ?_
  refine simu_seq (fun j hj => simu_comp hcode (by omega)) fun j hj => ?_
  refine simu_seq (fun j hj => simu_comp hcode (by omega)) fun j hj => ?_
  refine simu_seq (fun j hj => simu_comp hcode (by omega)) fun j hj => ?_
  exact simu_seq (fun j hj => simu_x hcode (by omega) hK t9 t39 t40 t41) fun j hj => simu_comp hcode (by omega)
end
end Tm
