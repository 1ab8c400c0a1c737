/- The abstract machine on trees, part P. No statement of the seat is proved here. -/
import Derived.Test.YtmciehdmmnkdhaaGreatDoorTmI
set_option linter.unusedVariables false
set_option linter.unusedSimpArgs false
set_option linter.constructorNameAsVariable false
set_option linter.unusedSectionVars false
set_option linter.deprecated false
set_option linter.unnecessarySimpa false
/- Rules for going through the machine's code with names for what is not known. No statement of the seat is proved here. -/
set_option linter.unusedVariables false
set_option linter.unusedSimpArgs false
namespace Tm
open Go
section
variable {F : Nat → Option CFun}
/-- The code ends well, in Q. -/
def Wp (F : Nat → Option CFun) (c : CCode) (s : St) (Q : Out → Prop) : Prop := ∃ K o, ev F K c s = o ∧ o ≠ .bad ∧ Q o
/-- A call ends. -/
def Cw (F : Nat → Option CFun) (g : Nat) (as : List AV) (h : Heap) (n : Nat) (Q : AV → Heap → Nat → Prop) : Prop := ∃ K v h' n', callA F (ev F K) g as h n = some (v, h', n') ∧ Q v h' n'
theorem ev_le {K J : Nat} {c : CCode} {s : St} {o : Out} (h : ev F K c s = o) (hb : o ≠ .bad) (hk : K ≤ J) : ev F J c s = o := by
  have := ev_mono (F := F) hk c s (by rw [h]; exact hb)
  rw [this]; exact h
theorem Wp.mono {c : CCode} {s : St} {Q R : Out → Prop} (h : Wp F c s Q) (hq : ∀ o, Q o → R o) : Wp F c s R := let ⟨K, o, h1, h2, h3⟩ := h; ⟨K, o, h1, h2, hq _ h3⟩
theorem Cw.mono {g : Nat} {as : List AV} {h : Heap} {n : Nat} {Q R : AV → Heap → Nat → Prop} (hc : Cw F g as h n Q) (hq : ∀ v h n, Q v h n → R v h n) : Cw F g as h n R := let ⟨K, v, h', n', h1, h2⟩ := hc; ⟨K, v, h', n', h1, hq _ _ _ h2⟩
theorem wp_skip {s : St} {Q : Out → Prop} (h : Q (.nor s)) : Wp F .skip s Q := ⟨1, .nor s, rfl, Out.noConfusion, h⟩
theorem wp_exit {i : Nat} {s : St} {Q : Out → Prop} (h : Q (.ex i s)) : Wp F (.exit i) s Q := ⟨1, .ex i s, rfl, Out.noConfusion, h⟩
theorem wp_ret {s : St} {Q : Out → Prop} (h : Q (.rt s)) : Wp F .ret s Q := ⟨1, .rt s, rfl, Out.noConfusion, h⟩
/-- What follows in a sequence. -/
def thn (F : Nat → Option CFun) (b : CCode) (Q : Out → Prop) : Out → Prop
  | .nor s => Wp F b s Q
  | o => Q o
theorem wp_seq {a b : CCode} {s : St} {Q : Out → Prop} (h : Wp F a s (thn F b Q)) : Wp F (.seq a b) s Q := by
  obtain ⟨K, o, h1, h2, h3⟩ := h
  cases o with
  | bad => exact absurd rfl h2
  | nor s' =>
    obtain ⟨J, o', g1, g2, g3⟩ := h3
    refine ⟨max K J + 1, o', ?_, g2, g3⟩
    show step F (ev F (max K J)) (.seq a b) s = o'
    simp only [step]
    rw [ev_le h1 h2 (Nat.le_max_left _ _)]
    exact ev_le g1 g2 (Nat.le_max_right _ _)
  | ex i s' => exact ⟨K + 1, _, by show step F (ev F K) (.seq a b) s = _; simp only [step]; rw [h1], h2, h3⟩
  | rt s' => exact ⟨K + 1, _, by show step F (ev F K) (.seq a b) s = _; simp only [step]; rw [h1], h2, h3⟩
theorem wp_cond {c : Opd} {a b : CCode} {s : St} {Q : Out → Prop} {t : Bool} (hc : c.ev s.e = .d (.b t)) (h : (t = true → Wp F a s Q) ∧ (t = false → Wp F b s Q)) : Wp F (.cond c a b) s Q := by
  cases t with
  | true =>
    obtain ⟨K, o, h1, h2, h3⟩ := h.1 rfl
    exact ⟨K + 1, o, by show step F (ev F K) (.cond c a b) s = _; simp only [step, hc]; exact h1, h2, h3⟩
  | false =>
    obtain ⟨K, o, h1, h2, h3⟩ := h.2 rfl
    exact ⟨K + 1, o, by show step F (ev F K) (.cond c a b) s = _; simp only [step, hc]; exact h1, h2, h3⟩
def blk (i : Nat) (Q : Out → Prop) : Out → Prop
  | .ex j s => if j = i then Q (.nor s) else Q (.ex j s)
  | o => Q o
theorem wp_block {i : Nat} {b : CCode} {s : St} {Q : Out → Prop} (h : Wp F b s (blk i Q)) : Wp F (.block i b) s Q := by
  obtain ⟨K, o, h1, h2, h3⟩ := h
  have hs : ∀ r, ev F K b s = r → ev F (K + 1) (.block i b) s = (match r with | .ex j s => (match j == i with | true => .nor s | false => .ex j s) | r => r) := by
    intro r hr
    show step F (ev F K) (.block i b) s = _
    simp only [step]; rw [hr]
    cases r <;> rfl
  have hs := hs o h1
  cases o with
  | bad => exact absurd rfl h2
  | ex j s' =>
    simp only [blk] at h3
    by_cases hj : j = i
    · rw [if_pos hj] at h3
      exact ⟨K + 1, _, by rw [hs]; simp [hj], Out.noConfusion, h3⟩
    · rw [if_neg hj] at h3
      exact ⟨K + 1, _, by rw [hs]; simp only [show (j == i) = false by simpa using hj], Out.noConfusion, h3⟩
  | nor s' => exact ⟨K + 1, _, hs, h2, h3⟩
  | rt s' => exact ⟨K + 1, _, hs, h2, h3⟩
theorem wp_loop {b : CCode} {s : St} {Q : Out → Prop} (h : Wp F b s (thn F (.loop b) Q)) : Wp F (.loop b) s Q := by
  obtain ⟨K, o, h1, h2, h3⟩ := h
  cases o with
  | bad => exact absurd rfl h2
  | nor s' =>
    obtain ⟨J, o', g1, g2, g3⟩ := h3
    refine ⟨max K J + 1, o', ?_, g2, g3⟩
    show step F (ev F (max K J)) (.loop b) s = o'
    simp only [step]
    rw [ev_le h1 h2 (Nat.le_max_left _ _)]
    exact ev_le g1 g2 (Nat.le_max_right _ _)
  | ex i s' => exact ⟨K + 1, _, by show step F (ev F K) (.loop b) s = _; simp only [step]; rw [h1], h2, h3⟩
  | rt s' => exact ⟨K + 1, _, by show step F (ev F K) (.loop b) s = _; simp only [step]; rw [h1], h2, h3⟩
/-- Operations, one by one. -/
def Wo (F : Nat → Option CFun) (n0 : Nat) (l : List (Nat × COper)) (e : Env) (h : Heap) (n : Nat) (Q : Env → Heap → Nat → Prop) : Prop := ∃ K s', evOps (callA F (ev F K)) n0 l ⟨e, h, n⟩ = some s' ∧ Q s'.e s'.h s'.n
theorem wp_reg {len : Nat} {ops : List (Nat × COper)} {e : Env} {h : Heap} {n : Nat} {Q : Out → Prop} (hw : Wo F n ops e h (n + len) (fun e h n => Q (.nor ⟨e, h, n⟩))) : Wp F (.reg len ops) ⟨e, h, n⟩ Q := by
  obtain ⟨K, s', h1, h2⟩ := hw
  exact ⟨K + 1, .nor s', by show step F (ev F K) (.reg len ops) ⟨e, h, n⟩ = _; simp only [step]; rw [h1], by simp, h2⟩
theorem wo_nil {n0 : Nat} {e : Env} {h : Heap} {n : Nat} {Q : Env → Heap → Nat → Prop} (hq : Q e h n) : Wo F n0 [] e h n Q := ⟨0, _, rfl, hq⟩
theorem evOps_step {C : CallF} {n0 i : Nat} {o : COper} {l : List (Nat × COper)} {e : Env} {h h' : Heap} {n n' : Nat} {v : AV} (hg : wants e o.guard = some true) (hd : doOp C o.op ⟨e, h, n⟩ (n0 + i) = some (v, h', n')) (hf : (fresh h (n0 + i) o.op && o.chk.all (again n0 ⟨putE e o.dst v, h', n'⟩) && apart e o) = true) :
    evOps C n0 ((i, o) :: l) ⟨e, h, n⟩ = evOps C n0 l ⟨putE e o.dst v, h', n'⟩ := by
  simp only [evOps, hg, hd, hf]
/-- A plain operation: no guard, no checks. -/
theorem wo_op {n0 i : Nat} {d : Option Nat} {c : COp} {l : List (Nat × COper)} {e : Env} {h h' : Heap} {n : Nat} {v : AV} {Q : Env → Heap → Nat → Prop} (hv : evOp c e h (n0 + i) = some (v, h')) (hc : isCall c = false) (hf : fresh h (n0 + i) c = true) (hw : Wo F n0 l (putE e d v) h' n Q) :
    Wo F n0 ((i, ⟨d, none, c, [], none⟩) :: l) e h n Q := by
  obtain ⟨K, s', h1, h2⟩ := hw
  refine ⟨K, s', ?_, h2⟩
  rw [evOps_step (v := v) (h' := h') (n' := n) rfl ?_ (by simp [hf, apart])]
  · exact h1
  · cases c <;> first | (simp [isCall] at hc; done) | (simp only [doOp, hv])
theorem wo_call {n0 i g : Nat} {d : Option Nat} {args : List Opd} {l : List (Nat × COper)} {e : Env} {h : Heap} {n : Nat} {Q : Env → Heap → Nat → Prop} (hc : Cw F g (evs e args) h n fun v h' n' => Wo F n0 l (putE e d v) h' n' Q) :
    Wo F n0 ((i, ⟨d, none, .call g args, [], none⟩) :: l) e h n Q := by
  obtain ⟨K, v, h', n', h1, J, s', h2, h3⟩ := hc
  refine ⟨max K J, s', ?_, h3⟩
  rw [evOps_step (v := v) (h' := h') (n' := n') rfl ?_ (by simp [fresh, apart])]
  · exact evOps_mono (callA_mono (ev_mono (Nat.le_max_right _ _))) h2
  · exact callA_mono (ev_mono (Nat.le_max_left _ _)) _ _ _ _ _ h1
/-- A call that works on a heap of its own, with results that are data. -/
theorem cl_fact {g : Nat} {cf : CFun} {args as : List AV} {h h2 : Heap} {n : Nat} {r : List AV} {Q : AV → Heap → Nat → Prop} (hf : Fact F g as (r.map .v)) (hF : F g = some cf) (hp : cf.pure = true) (ha : argsD cf.bor args h = some (as, h2)) (hq : Q (tup r) h2 n) : Cw F g args h n Q := by
  obtain ⟨K, hK⟩ := hf
  refine ⟨K, tup r, h2, n, ?_, hq⟩
  rw [callA_run hF hp ha hK, lay_v]
/-- A function that works on a heap of its own. -/
theorem fact_of_wp {g : Nat} {cf : CFun} {as : List AV} {p : List PR} (hF : F g = some cf) (hp : cf.pure = true) (hw : Wp F cf.body ⟨initE 0 as .lf, .lf, 0⟩ fun o => match o with | .nor s => prsOf cf s = some p | .rt s => prsOf cf s = some p | _ => False) : Fact F g as p := by
  obtain ⟨K, o, h1, h2, h3⟩ := hw
  refine ⟨K, ?_⟩
  unfold runP
  simp only [hF, hp, h1]
  cases o <;> first | exact h3 | exact h3.elim
end
end Tm
set_option linter.unusedVariables false
set_option linter.unusedSimpArgs false
namespace Tm
open Go
/-- What a slot holds. -/
def Env.at (e : Env) (i : Nat) : AV := (T.get e i).getD .u
@[simp] theorem ev_t (e : Env) (i : Nat) : (Opd.t i).ev e = e.at i := rfl
@[simp] theorem ev_c (e : Env) (v : AV) : (Opd.c v).ev e = v := rfl
@[simp] theorem at_put (e : Env) (k j : Nat) (v : AV) : (putE e (some k) v).at j = if j = k then v else e.at j := by
  unfold Env.at putE
  rw [T.get_set]
  by_cases h : j = k
  · rw [if_pos h, if_pos h]; rfl
  · rw [if_neg h, if_neg h]
@[simp] theorem at_set (e : Env) (k j : Nat) (v : AV) : Env.at (T.set e k v) j = if j = k then v else e.at j := at_put e k j v
@[simp] theorem at_lf (j : Nat) : Env.at .lf j = .u := rfl
@[simp] theorem put_none (e : Env) (v : AV) : putE e none v = e := rfl
section
variable {F : Nat → Option CFun}
def kont (F : Nat → Option CFun) (n0 : Nat) (l : List (Nat × COper)) (e : Env) (d : Option Nat) (Q : Env → Heap → Nat → Prop) (v : AV) (h : Heap) (n : Nat) : Prop := Wo F n0 l (putE e d v) h n Q
@[simp] theorem kont_eq {n0 : Nat} {l : List (Nat × COper)} {e : Env} {d : Option Nat} {Q : Env → Heap → Nat → Prop} {v : AV} {h : Heap} {n : Nat} : kont F n0 l e d Q v h n ↔ Wo F n0 l (putE e d v) h n Q := Iff.rfl
def nrm (Q : Out → Prop) (e : Env) (h : Heap) (n : Nat) : Prop := Q (.nor ⟨e, h, n⟩)
@[simp] theorem nrm_eq {Q : Out → Prop} {e : Env} {h : Heap} {n : Nat} : nrm Q e h n ↔ Q (.nor ⟨e, h, n⟩) := Iff.rfl
@[simp] theorem thn_nor {b : CCode} {Q : Out → Prop} {s : St} : thn F b Q (.nor s) ↔ Wp F b s Q := Iff.rfl
@[simp] theorem thn_ex {b : CCode} {Q : Out → Prop} {s : St} {i : Nat} : thn F b Q (.ex i s) ↔ Q (.ex i s) := Iff.rfl
@[simp] theorem thn_rt {b : CCode} {Q : Out → Prop} {s : St} : thn F b Q (.rt s) ↔ Q (.rt s) := Iff.rfl
@[simp] theorem blk_nor {i : Nat} {Q : Out → Prop} {s : St} : blk i Q (.nor s) ↔ Q (.nor s) := Iff.rfl
@[simp] theorem blk_rt {i : Nat} {Q : Out → Prop} {s : St} : blk i Q (.rt s) ↔ Q (.rt s) := Iff.rfl
@[simp] theorem blk_ex {i j : Nat} {Q : Out → Prop} {s : St} : blk i Q (.ex j s) ↔ if j = i then Q (.nor s) else Q (.ex j s) := Iff.rfl
theorem ev_det {K J : Nat} {c : CCode} {s : St} {o p : Out} (h : ev F K c s = o) (hb : o ≠ .bad) (h' : ev F J c s = p) (hb' : p ≠ .bad) : o = p := by
  rw [← ev_le h hb (Nat.le_max_left K J), ← ev_le h' hb' (Nat.le_max_right K J)]
@[simp] theorem skip_iff {s : St} {Q : Out → Prop} : Wp F .skip s Q ↔ Q (.nor s) := ⟨fun ⟨K, o, h1, h2, h3⟩ => by rw [ev_det h1 h2 (show ev F 1 .skip s = .nor s from rfl) Out.noConfusion] at h3; exact h3, wp_skip⟩
@[simp] theorem exit_iff {i : Nat} {s : St} {Q : Out → Prop} : Wp F (.exit i) s Q ↔ Q (.ex i s) := ⟨fun ⟨K, o, h1, h2, h3⟩ => by rw [ev_det h1 h2 (show ev F 1 (.exit i) s = .ex i s from rfl) Out.noConfusion] at h3; exact h3, wp_exit⟩
@[simp] theorem ret_iff {s : St} {Q : Out → Prop} : Wp F .ret s Q ↔ Q (.rt s) := ⟨fun ⟨K, o, h1, h2, h3⟩ => by rw [ev_det h1 h2 (show ev F 1 .ret s = .rt s from rfl) Out.noConfusion] at h3; exact h3, wp_ret⟩
@[simp] theorem seq_iff {a b : CCode} {s : St} {Q : Out → Prop} : Wp F (.seq a b) s Q ↔ Wp F a s (thn F b Q) := by
  refine ⟨fun ⟨K, o, h1, h2, h3⟩ => ?_, wp_seq⟩
  cases K with
  | zero => exact absurd h1.symm h2
  | succ K =>
    have h1' : step F (ev F K) (.seq a b) s = o := h1
    simp only [step] at h1'
    cases ha : ev F K a s with
    | bad => rw [ha] at h1'; exact absurd h1'.symm h2
    | nor s' => rw [ha] at h1'; exact ⟨K, _, ha, Out.noConfusion, ⟨K, o, h1', h2, h3⟩⟩
    | ex i s' => rw [ha] at h1'; subst h1'; exact ⟨K, _, ha, Out.noConfusion, h3⟩
    | rt s' => rw [ha] at h1'; subst h1'; exact ⟨K, _, ha, Out.noConfusion, h3⟩
theorem loop_iff {b : CCode} {s : St} {Q : Out → Prop} : Wp F (.loop b) s Q ↔ Wp F b s (thn F (.loop b) Q) := by
  refine ⟨fun ⟨K, o, h1, h2, h3⟩ => ?_, wp_loop⟩
  cases K with
  | zero => exact absurd h1.symm h2
  | succ K =>
    have h1' : step F (ev F K) (.loop b) s = o := h1
    simp only [step] at h1'
    cases ha : ev F K b s with
    | bad => rw [ha] at h1'; exact absurd h1'.symm h2
    | nor s' => rw [ha] at h1'; exact ⟨K, _, ha, Out.noConfusion, ⟨K, o, h1', h2, h3⟩⟩
    | ex i s' => rw [ha] at h1'; subst h1'; exact ⟨K, _, ha, Out.noConfusion, h3⟩
    | rt s' => rw [ha] at h1'; subst h1'; exact ⟨K, _, ha, Out.noConfusion, h3⟩
/-- A choice: by what the operand is. -/
def cnd (F : Nat → Option CFun) (v : AV) (a b : CCode) (s : St) (Q : Out → Prop) : Prop := Wp F (.cond (.c v) a b) s Q
theorem cnd_of {c : Opd} {a b : CCode} {s : St} {Q : Out → Prop} : Wp F (.cond c a b) s Q ↔ cnd F (c.ev s.e) a b s Q := by
  unfold cnd Wp
  have : ∀ K, ev F K (.cond c a b) s = ev F K (.cond (.c (c.ev s.e)) a b) s := fun K => by cases K <;> rfl
  simp only [this]
@[simp] theorem cond_iff {c : Opd} {a b : CCode} {s : St} {Q : Out → Prop} : Wp F (.cond c a b) s Q ↔ cnd F (c.ev s.e) a b s Q := cnd_of
theorem cnd_b {t : Bool} {a b : CCode} {s : St} {Q : Out → Prop} : cnd F (.d (.b t)) a b s Q ↔ (t = true → Wp F a s Q) ∧ (t = false → Wp F b s Q) := by
  refine ⟨fun h => ?_, fun h => wp_cond (t := t) rfl h⟩
  obtain ⟨K, o, h1, h2, h3⟩ := h
  cases K with
  | zero => exact absurd h1.symm h2
  | succ K => cases t with
    | true => exact ⟨fun _ => ⟨K, o, h1, h2, h3⟩, by simp⟩
    | false => exact ⟨by simp, fun _ => ⟨K, o, h1, h2, h3⟩⟩
@[simp] theorem cnd_true {a b : CCode} {s : St} {Q : Out → Prop} : cnd F (.d (.b true)) a b s Q ↔ Wp F a s Q := by simp [cnd_b]
@[simp] theorem cnd_false {a b : CCode} {s : St} {Q : Out → Prop} : cnd F (.d (.b false)) a b s Q ↔ Wp F b s Q := by simp [cnd_b]
@[simp] theorem cnd_dec {p : Prop} [Decidable p] {a b : CCode} {s : St} {Q : Out → Prop} : cnd F (.d (.b (decide p))) a b s Q ↔ (p → Wp F a s Q) ∧ (¬ p → Wp F b s Q) := by simp [cnd_b]
theorem block_iff0 {i : Nat} {b : CCode} {s : St} {Q : Out → Prop} (h : Wp F (.block i b) s Q) : Wp F b s (blk i Q) := by
  obtain ⟨K, o, h1, h2, h3⟩ := h
  cases K with
  | zero => exact absurd h1.symm h2
  | succ K =>
    have h1' : step F (ev F K) (.block i b) s = o := h1
    simp only [step] at h1'
    cases ha : ev F K b s with
    | bad => rw [ha] at h1'; exact absurd h1'.symm h2
    | nor s' => rw [ha] at h1'; subst h1'; exact ⟨K, _, ha, Out.noConfusion, h3⟩
    | rt s' => rw [ha] at h1'; subst h1'; exact ⟨K, _, ha, Out.noConfusion, h3⟩
    | ex j s' =>
      rw [ha] at h1'
      refine ⟨K, _, ha, Out.noConfusion, ?_⟩
      simp only [blk]
      by_cases hj : j = i
      · subst hj
        simp only [beq_self_eq_true] at h1'
        subst h1'
        rw [if_pos rfl]; exact h3
      · rw [if_neg hj]
        simp only [show (j == i) = false by simpa using hj] at h1'
        subst h1'
        exact h3
@[simp] theorem block_iff {i : Nat} {b : CCode} {s : St} {Q : Out → Prop} : Wp F (.block i b) s Q ↔ Wp F b s (blk i Q) := ⟨block_iff0, wp_block⟩
@[simp] theorem reg_iff {len : Nat} {ops : List (Nat × COper)} {e : Env} {h : Heap} {n : Nat} {Q : Out → Prop} : Wp F (.reg len ops) ⟨e, h, n⟩ Q ↔ Wo F n ops e h (n + len) (nrm Q) := by
  refine ⟨fun ⟨K, o, h1, h2, h3⟩ => ?_, fun h => wp_reg h⟩
  cases K with
  | zero => exact absurd h1.symm h2
  | succ K =>
    have h1' : step F (ev F K) (.reg len ops) ⟨e, h, n⟩ = o := h1
    simp only [step] at h1'
    cases ha : evOps (callA F (ev F K)) n ops ⟨e, h, n + len⟩ with
    | none => rw [ha] at h1'; exact absurd h1'.symm h2
    | some s' => rw [ha] at h1'; subst h1'; exact ⟨K, s', ha, h3⟩
@[simp] theorem nil_iff {n0 : Nat} {e : Env} {h : Heap} {n : Nat} {Q : Env → Heap → Nat → Prop} : Wo F n0 [] e h n Q ↔ Q e h n := by
  refine ⟨fun ⟨K, s', h1, h2⟩ => ?_, wo_nil⟩
  simp only [evOps, Option.some.injEq] at h1
  subst h1; exact h2
/-- What one operation leaves; f: what has to be seen behind it. -/
def opw (F : Nat → Option CFun) (r : R1) (f : AV → Heap → Bool) (n0 : Nat) (l : List (Nat × COper)) (e : Env) (d : Option Nat) (n : Nat) (Q : Env → Heap → Nat → Prop) : Prop := ∃ v h', r = some (v, h') ∧ f v h' = true ∧ Wo F n0 l (putE e d v) h' n Q
@[simp] theorem opw_some {v : AV} {h' : Heap} {f : AV → Heap → Bool} {n0 : Nat} {l : List (Nat × COper)} {e : Env} {d : Option Nat} {n : Nat} {Q : Env → Heap → Nat → Prop} : opw F (some (v, h')) f n0 l e d n Q ↔ f v h' = true ∧ Wo F n0 l (putE e d v) h' n Q := by
  unfold opw
  constructor
  · rintro ⟨v1, h1, e1, e2, e3⟩
    cases e1
    exact ⟨e2, e3⟩
  · rintro ⟨h1, h2⟩
    exact ⟨v, h', rfl, h1, h2⟩
/-- What has to be seen: the name is free, the checks. -/
def seen (n0 : Nat) (fr : Bool) (chk : List (Nat × Option Nat × Option (Nat × Bool) × COp)) (ap : Bool) (e : Env) (d : Option Nat) (n : Nat) (v : AV) (h' : Heap) : Bool := fr && chk.all (again n0 ⟨putE e d v, h', n⟩) && ap
@[simp] theorem seen_nil {n0 : Nat} {fr : Bool} {e : Env} {d : Option Nat} {n : Nat} {v : AV} {h' : Heap} : seen n0 fr [] true e d n v h' = fr := by simp [seen]
theorem op_of0 {n0 i : Nat} {d : Option Nat} {c : COp} {chk : List (Nat × Option Nat × Option (Nat × Bool) × COp)} {dis : Option Opd} {l : List (Nat × COper)} {e : Env} {h : Heap} {n : Nat} {Q : Env → Heap → Nat → Prop} (hc : isCall c = false) :
    Wo F n0 ((i, ⟨d, none, c, chk, dis⟩) :: l) e h n Q ↔ opw F (evOp c e h (n0 + i)) (seen n0 (fresh h (n0 + i) c) chk (apart e ⟨d, none, c, chk, dis⟩) e d n) n0 l e d n Q := by
  have hd : ∀ C : CallF, doOp C c ⟨e, h, n⟩ (n0 + i) = match evOp c e h (n0 + i) with | some (v, h) => some (v, h, n) | none => none := fun C => by
    cases c <;> first | (simp [isCall] at hc; done) | rfl
  constructor
  · rintro ⟨K, s', h1, h2⟩
    simp only [evOps, wants, hd] at h1
    cases hv : evOp c e h (n0 + i) with
    | none => simp [hv] at h1
    | some p =>
      obtain ⟨v, h'⟩ := p
      simp only [hv] at h1
      split at h1
      · rename_i hs
        exact ⟨v, h', rfl, hs, K, s', h1, h2⟩
      · cases h1
  · rintro ⟨v, h', hv, hs, K, s', h1, h2⟩
    refine ⟨K, s', ?_, h2⟩
    exact (evOps_step (o := ⟨d, none, c, chk, dis⟩) (v := v) (h' := h') (n' := n) rfl ((hd _).trans (by rw [hv])) hs).trans h1
theorem op_iff {n0 i : Nat} {d : Option Nat} {c : COp} {l : List (Nat × COper)} {e : Env} {h : Heap} {n : Nat} {Q : Env → Heap → Nat → Prop} (hc : isCall c = false) :
    Wo F n0 ((i, ⟨d, none, c, [], none⟩) :: l) e h n Q ↔ opw F (evOp c e h (n0 + i)) (fun _ _ => fresh h (n0 + i) c) n0 l e d n Q := by
  rw [op_of0 hc]
  have : (seen n0 (fresh h (n0 + i) c) [] (apart e ⟨d, none, c, [], none⟩) e d n) = fun _ _ => fresh h (n0 + i) c := by
    funext v h'; simp [seen, apart]
  rw [this]
theorem opc_iff {n0 i : Nat} {d : Option Nat} {c : COp} {q : Nat × Option Nat × Option (Nat × Bool) × COp} {chk : List (Nat × Option Nat × Option (Nat × Bool) × COp)} {dis : Option Opd} {l : List (Nat × COper)} {e : Env} {h : Heap} {n : Nat} {Q : Env → Heap → Nat → Prop} (hc : isCall c = false) :
    Wo F n0 ((i, ⟨d, none, c, q :: chk, dis⟩) :: l) e h n Q ↔ opw F (evOp c e h (n0 + i)) (seen n0 (fresh h (n0 + i) c) (q :: chk) (apart e ⟨d, none, c, q :: chk, dis⟩) e d n) n0 l e d n Q := op_of0 hc
@[simp] theorem call_iff {n0 i g : Nat} {d : Option Nat} {args : List Opd} {l : List (Nat × COper)} {e : Env} {h : Heap} {n : Nat} {Q : Env → Heap → Nat → Prop} :
    Wo F n0 ((i, ⟨d, none, .call g args, [], none⟩) :: l) e h n Q ↔ Cw F g (evs e args) h n (kont F n0 l e d Q) := by
  constructor
  · rintro ⟨K, s', h1, h2⟩
    obtain ⟨v, h', n', g1, g2, g3⟩ := evOps_one h1
    exact ⟨K, v, h', n', g1, K, s', g3, h2⟩
  · exact fun h => wo_call h
@[simp] theorem callv_iff {n0 i : Nat} {x : Opd} {d : Option Nat} {args : List Opd} {l : List (Nat × COper)} {e : Env} {h : Heap} {n : Nat} {Q : Env → Heap → Nat → Prop} :
    Wo F n0 ((i, ⟨d, none, .callv x args, [], none⟩) :: l) e h n Q ↔ ∃ g fs caps, x.ev e = .f g fs caps ∧ Cw F g (fs ++ evs e args ++ caps) h n (kont F n0 l e d Q) := by
  constructor
  · rintro ⟨K, s', h1, h2⟩
    obtain ⟨v, h', n', g1, g2, g3⟩ := evOps_one h1
    simp only [doOp] at g1
    split at g1
    · rename_i g fs caps hx
      exact ⟨g, fs, caps, hx, K, v, h', n', g1, K, s', g3, h2⟩
    · cases g1
  · rintro ⟨g, fs, caps, hx, K, v, h', n', h1, J, s', h2, h3⟩
    refine ⟨max K J, s', ?_, h3⟩
    rw [evOps_step (v := v) (h' := h') (n' := n') rfl ?_ (by simp [fresh, apart])]
    · exact evOps_mono (callA_mono (ev_mono (Nat.le_max_right _ _))) h2
    · simp only [doOp, hx]
      exact callA_mono (ev_mono (Nat.le_max_left _ _)) _ _ _ _ _ h1
/-- A guard: by what its slot holds. -/
def gdw (F : Nat → Option CFun) (v : AV) (w : Bool) (n0 i : Nat) (d : Option Nat) (c : COp) (chk : List (Nat × Option Nat × Option (Nat × Bool) × COp)) (dis : Option Opd) (l : List (Nat × COper)) (e : Env) (h : Heap) (n : Nat) (Q : Env → Heap → Nat → Prop) : Prop :=
  match v with
  | .d (.b t) => (t = w → Wo F n0 ((i, ⟨d, none, c, chk, dis⟩) :: l) e h n Q) ∧ (t ≠ w → Wo F n0 l (putE e d (.tu [])) h n Q)
  | .tu [] => Wo F n0 l (putE e d (.tu [])) h n Q
  | _ => False
theorem wo_same {n0 : Nat} {l l' : List (Nat × COper)} {e e' : Env} {h h' : Heap} {n n' : Nat} {Q : Env → Heap → Nat → Prop} (hh : ∀ C : CallF, evOps C n0 l ⟨e, h, n⟩ = evOps C n0 l' ⟨e', h', n'⟩) : Wo F n0 l e h n Q ↔ Wo F n0 l' e' h' n' Q := by
  unfold Wo; simp only [hh]
theorem apart_guard {e : Env} {d : Option Nat} {g g' : Option (Nat × Bool)} {c : COp} {chk : List (Nat × Option Nat × Option (Nat × Bool) × COp)} {dis : Option Opd} : apart e ⟨d, g, c, chk, dis⟩ = apart e ⟨d, g', c, chk, dis⟩ := rfl
@[simp] theorem guard_iff {n0 i j : Nat} {w : Bool} {d : Option Nat} {c : COp} {chk : List (Nat × Option Nat × Option (Nat × Bool) × COp)} {dis : Option Opd} {l : List (Nat × COper)} {e : Env} {h : Heap} {n : Nat} {Q : Env → Heap → Nat → Prop} :
    Wo F n0 ((i, ⟨d, some (j, w), c, chk, dis⟩) :: l) e h n Q ↔ gdw F (e.at j) w n0 i d c chk dis l e h n Q := by
  have hw : wants e (some (j, w)) = match e.at j with | .d (.b c) => some (c == w) | .tu [] => some false | _ => none := by
    unfold Env.at
    simp only [wants]
    cases e.get j with
    | none => rfl
    | some v => cases v <;> first | rfl | (rename_i x; cases x <;> rfl)
  unfold gdw
  split
  · rename_i t ht
    rw [ht] at hw
    by_cases htw : t = w
    · have : wants e (some (j, w)) = some true := by rw [hw]; simp [htw]
      simp only [htw, true_implies, not_true_eq_false, false_implies, and_true, ne_eq]
      exact wo_same fun C => by
        simp only [evOps, this, apart_guard (g := some (j, w)) (g' := none)]
        simp only [wants]
    · have : wants e (some (j, w)) = some false := by rw [hw]; simp [htw]
      simp only [htw, ne_eq, not_false_eq_true, true_implies, false_implies, true_and]
      exact wo_same fun C => by simp only [evOps, this]
  · rename_i ht
    rw [ht] at hw
    have : wants e (some (j, w)) = some false := hw
    exact wo_same fun C => by simp only [evOps, this]
  · rename_i h1 h2
    have : wants e (some (j, w)) = none := by
      rw [hw]
      split
      · rename_i c hc; exact absurd hc (h1 c)
      · rename_i hc; exact absurd hc h2
      · rfl
    refine ⟨fun ⟨K, s', h3, _⟩ => ?_, False.elim⟩
    simp [evOps, this] at h3
@[simp] theorem gdw_true {n0 i : Nat} {w : Bool} {d : Option Nat} {c : COp} {chk : List (Nat × Option Nat × Option (Nat × Bool) × COp)} {dis : Option Opd} {l : List (Nat × COper)} {e : Env} {h : Heap} {n : Nat} {Q : Env → Heap → Nat → Prop} :
    gdw F (.d (.b w)) w n0 i d c chk dis l e h n Q ↔ Wo F n0 ((i, ⟨d, none, c, chk, dis⟩) :: l) e h n Q := by simp [gdw]
@[simp] theorem gdw_tf {n0 i : Nat} {d : Option Nat} {c : COp} {chk : List (Nat × Option Nat × Option (Nat × Bool) × COp)} {dis : Option Opd} {l : List (Nat × COper)} {e : Env} {h : Heap} {n : Nat} {Q : Env → Heap → Nat → Prop} :
    gdw F (.d (.b true)) false n0 i d c chk dis l e h n Q ↔ Wo F n0 l (putE e d (.tu [])) h n Q := by simp [gdw]
@[simp] theorem gdw_ft {n0 i : Nat} {d : Option Nat} {c : COp} {chk : List (Nat × Option Nat × Option (Nat × Bool) × COp)} {dis : Option Opd} {l : List (Nat × COper)} {e : Env} {h : Heap} {n : Nat} {Q : Env → Heap → Nat → Prop} :
    gdw F (.d (.b false)) true n0 i d c chk dis l e h n Q ↔ Wo F n0 l (putE e d (.tu [])) h n Q := by simp [gdw]
@[simp] theorem gdw_tu {n0 i : Nat} {w : Bool} {d : Option Nat} {c : COp} {chk : List (Nat × Option Nat × Option (Nat × Bool) × COp)} {dis : Option Opd} {l : List (Nat × COper)} {e : Env} {h : Heap} {n : Nat} {Q : Env → Heap → Nat → Prop} :
    gdw F (.tu []) w n0 i d c chk dis l e h n Q ↔ Wo F n0 l (putE e d (.tu [])) h n Q := by simp [gdw]
end
end Tm
set_option linter.unusedVariables false
set_option linter.unusedSimpArgs false
namespace Tm
open Go
section
variable {F : Nat → Option CFun}

def vNil : AV → Option AV
  | .p a o => some (.p a o)
  | .pe l o => some (.pe l o)
  | .f g fs c => some (.f g fs c)
  | _ => none
def vConv (k : IntKind) : AV → Option AV
  | .d (.i _ m) => some (.d (.i k (k.wrap m)))
  | _ => none
def vCvs : AV → Option AV
  | .d (.s l) => some (.d (.s l))
  | _ => none
def vS2b : AV → Option AV
  | .d (.s l) => some (.d (cutD (bytesD l)))
  | _ => none
def vB2s : Option (List D) → Option AV
  | some l => (match bytesOf l with
    | some bs => some (.d (.s ⟨bs.toArray⟩))
    | none => none)
  | none => none
def vSlS (e : Env) : AV → Option Opd → Option Opd → Option AV
  | .d (.s s), lo, hi => (match bnd e hi s.size s.size with
      | some b => (match bnd e lo 0 b with
        | some a => some (.d (.s (s.extract a b)))
        | none => none)
      | none => none)
  | _, _, _ => none
def vFld (off : Nat) : AV → Option AV
  | .p a o => some (.p a (o + off))
  | .pe l o => some (.pe l (o + off))
  | _ => none
def vElt (sz : Nat) : Option D → Option AV
  | some x => bif (cellsD x).length == sz then some (.pe ((cellsD x).map .d) 0) else none
  | none => none
def vRow (sz a o : Nat) : Option Ob → Option AV
  | some (.row s _ _) => bif s == sz then some (.p a (o * sz)) else none
  | _ => none
def vIdxa (sz : Nat) : AV → Option Nat → Heap → Option AV
  | .d (.sl l), some i, _ => vElt sz l[i]?
  | .zl l, some i, _ => vElt sz l[i]?
  | .bs l, some i, _ => vElt sz l[i]?
  | .sl a lo m, some i, h => bif Nat.blt i m then vRow sz a (lo + i) (h.get a) else none
  | _, _, _ => none
def vIdxA (len sz : Nat) : AV → Option Nat → Option AV
  | .p a o, some i => bif Nat.blt i len then some (.p a (o + i * sz)) else none
  | .pe l o, some i => bif Nat.blt i len then some (.pe l (o + i * sz)) else none
  | _, _ => none
def vIdx : AV → Option Nat → Option AV
  | .d (.s s), some i => (match s.data[i]? with
      | some b => some (.d (.i .u8 b.toNat))
      | none => none)
  | _, _ => none
def vIdxV (len sz : Nat) (agg : Bool) (x : AV) : Option Nat → Option AV
  | some i => bif Nat.blt i len && agV x then (match cellsV x with
      | some l => loadC (bif agg then some sz else none) (i * sz) l
      | none => none) else none
  | none => none
def mapAt (x : AV) (k : D) (h : Heap) : Option (Option AV) := match x with
  | .m a => (match h.get a with
    | some (.map ks vs) => lookA k ks vs
    | _ => none)
  | .mp ks vs => lookA k ks vs
  | .nm => some none
  | _ => none
def vFound (z : AV) (ok : Bool) : Option (Option AV) → Option AV
  | some (some v) => some (bif ok then .tu [v, .d (.b true)] else v)
  | some none => some (bif ok then .tu [z, .d (.b false)] else z)
  | none => none
def vLook (str : Bool) (z : AV) (ok : Bool) (x : AV) : AV → Heap → Option AV
  | .d k, h => bif isKey str k then vFound z ok (mapAt x k h) else none
  | _, _ => none
def vExt (i : Nat) : AV → Option AV
  | .tu l => l[i]?
  | _ => none
def vLen : Bool → AV → Option AV
  | true, .d (.s s) => some (.d (.i .i64 (.ofNat s.size)))
  | false, .d (.sl l) => some (.d (.i .i64 (.ofNat l.length)))
  | false, .d .se => some (.d (.i .i64 (.ofNat 0)))
  | false, .zl l => some (.d (.i .i64 (.ofNat l.length)))
  | false, .bs l => some (.d (.i .i64 (.ofNat l.length)))
  | false, .sl _ _ n => some (.d (.i .i64 (.ofNat n)))
  | _, _ => none
def vMax : AV → AV → Option AV
  | .d (.i k a), .d (.i _ b) => some (.d (.i k (bif b > a then b else a)))
  | _, _ => none
def vMin : AV → AV → Option AV
  | .d (.i k a), .d (.i _ b) => some (.d (.i k (bif b < a then b else a)))
  | _, _ => none
def vPick : AV → AV → AV → Option AV
  | .d (.b true), a, _ => some a
  | .d (.b false), _, b => some b
  | _, _, _ => none
/-- An operation that leaves memory as it is. -/
def ovw (F : Nat → Option CFun) (r : Option AV) (n0 : Nat) (l : List (Nat × COper)) (e : Env) (d : Option Nat) (h : Heap) (n : Nat) (Q : Env → Heap → Nat → Prop) : Prop := ∃ v, r = some v ∧ Wo F n0 l (putE e d v) h n Q
@[simp] theorem ovw_some {v : AV} {n0 : Nat} {l : List (Nat × COper)} {e : Env} {d : Option Nat} {h : Heap} {n : Nat} {Q : Env → Heap → Nat → Prop} : ovw F (some v) n0 l e d h n Q ↔ Wo F n0 l (putE e d v) h n Q := by
  unfold ovw
  exact ⟨fun ⟨v1, h1, h2⟩ => by cases h1; exact h2, fun h => ⟨v, rfl, h⟩⟩
/-- An operation that only writes. -/
def ohw (F : Nat → Option CFun) (r : Option Heap) (n0 : Nat) (l : List (Nat × COper)) (e : Env) (d : Option Nat) (n : Nat) (Q : Env → Heap → Nat → Prop) : Prop := ∃ h, r = some h ∧ Wo F n0 l (putE e d .u) h n Q
@[simp] theorem ohw_some {h : Heap} {n0 : Nat} {l : List (Nat × COper)} {e : Env} {d : Option Nat} {n : Nat} {Q : Env → Heap → Nat → Prop} : ohw F (some h) n0 l e d n Q ↔ Wo F n0 l (putE e d .u) h n Q := by
  unfold ohw
  exact ⟨fun ⟨v1, h1, h2⟩ => by cases h1; exact h2, fun hh => ⟨h, rfl, hh⟩⟩
theorem ov_of {c : COp} {r : Option AV} {n0 i : Nat} {d : Option Nat} {l : List (Nat × COper)} {e : Env} {h : Heap} {n : Nat} {Q : Env → Heap → Nat → Prop} (hc : isCall c = false) (hf : fresh h (n0 + i) c = true) (hr : evOp c e h (n0 + i) = r.map fun v => (v, h)) :
    Wo F n0 ((i, ⟨d, none, c, [], none⟩) :: l) e h n Q ↔ ovw F r n0 l e d h n Q := by
  rw [op_iff hc, hr, hf]
  cases r with
  | none => simp [opw, ovw]
  | some v => simp
theorem oh_of {c : COp} {r : Option Heap} {n0 i : Nat} {d : Option Nat} {l : List (Nat × COper)} {e : Env} {h : Heap} {n : Nat} {Q : Env → Heap → Nat → Prop} (hc : isCall c = false) (hf : fresh h (n0 + i) c = true) (hr : evOp c e h (n0 + i) = r.map fun h => (.u, h)) :
    Wo F n0 ((i, ⟨d, none, c, [], none⟩) :: l) e h n Q ↔ ohw F r n0 l e d n Q := by
  rw [op_iff hc, hr, hf]
  cases r with
  | none => simp [opw, ohw]
  | some v => simp
@[simp] theorem o_mv {n0 i : Nat} {d : Option Nat} {x : Opd} {l : List (Nat × COper)} {e : Env} {h : Heap} {n : Nat} {Q : Env → Heap → Nat → Prop} : Wo F n0 ((i, ⟨d, none, .mv x, [], none⟩) :: l) e h n Q ↔ Wo F n0 l (putE e d (x.ev e)) h n Q := by
  rw [op_iff rfl]; exact (opw_some (f := fun _ _ => true)).trans (by simp)
theorem v_load {n0 i : Nat} {s : Option Nat} {a : Opd} {e : Env} {h : Heap} : evOp (.load s a) e h (n0 + i) = (loadA s (a.ev e) h).map fun v => (v, h) := by
  simp only [evOp]; (repeat' split) <;> (try simp_all [vNil, vConv, vCvs, vS2b, vB2s, vSlS, vFld, vElt, vRow, vIdxa, vIdxA, vIdx, vIdxV, mapAt, vFound, vLook, vExt, vLen, vMax, vMin, vPick]) <;> (try (simp only [Bool.cond_eq_ite]; (repeat' split) <;> simp_all [vNil, vConv, vCvs, vS2b, vB2s, vSlS, vFld, vElt, vRow, vIdxa, vIdxA, vIdx, vIdxV, mapAt, vFound, vLook, vExt, vLen, vMax, vMin, vPick]))
@[simp] theorem o_load {n0 i : Nat} {d : Option Nat} {s : Option Nat} {a : Opd} {l : List (Nat × COper)} {e : Env} {h : Heap} {n : Nat} {Q : Env → Heap → Nat → Prop} : Wo F n0 ((i, ⟨d, none, (.load s a), [], none⟩) :: l) e h n Q ↔ ovw F (loadA s (a.ev e) h) n0 l e d h n Q := ov_of rfl rfl v_load
theorem v_nilc {n0 i : Nat} {x : Opd} {e : Env} {h : Heap} : evOp (.nilc x) e h (n0 + i) = (vNil (x.ev e)).map fun v => (v, h) := by
  simp only [evOp]; (repeat' split) <;> (try simp_all [vNil, vConv, vCvs, vS2b, vB2s, vSlS, vFld, vElt, vRow, vIdxa, vIdxA, vIdx, vIdxV, mapAt, vFound, vLook, vExt, vLen, vMax, vMin, vPick]) <;> (try (simp only [Bool.cond_eq_ite]; (repeat' split) <;> simp_all [vNil, vConv, vCvs, vS2b, vB2s, vSlS, vFld, vElt, vRow, vIdxa, vIdxA, vIdx, vIdxV, mapAt, vFound, vLook, vExt, vLen, vMax, vMin, vPick]))
@[simp] theorem o_nilc {n0 i : Nat} {d : Option Nat} {x : Opd} {l : List (Nat × COper)} {e : Env} {h : Heap} {n : Nat} {Q : Env → Heap → Nat → Prop} : Wo F n0 ((i, ⟨d, none, (.nilc x), [], none⟩) :: l) e h n Q ↔ ovw F (vNil (x.ev e)) n0 l e d h n Q := ov_of rfl rfl v_nilc
theorem v_bin {n0 i : Nat} {op : BinOp} {tag : Nat} {x y : Opd} {e : Env} {h : Heap} : evOp (.bin op tag x y) e h (n0 + i) = ((binA op tag (x.ev e) (y.ev e)).map .d).map fun v => (v, h) := by
  simp only [evOp]; (repeat' split) <;> (try simp_all [vNil, vConv, vCvs, vS2b, vB2s, vSlS, vFld, vElt, vRow, vIdxa, vIdxA, vIdx, vIdxV, mapAt, vFound, vLook, vExt, vLen, vMax, vMin, vPick]) <;> (try (simp only [Bool.cond_eq_ite]; (repeat' split) <;> simp_all [vNil, vConv, vCvs, vS2b, vB2s, vSlS, vFld, vElt, vRow, vIdxa, vIdxA, vIdx, vIdxV, mapAt, vFound, vLook, vExt, vLen, vMax, vMin, vPick]))
@[simp] theorem o_bin {n0 i : Nat} {d : Option Nat} {op : BinOp} {tag : Nat} {x y : Opd} {l : List (Nat × COper)} {e : Env} {h : Heap} {n : Nat} {Q : Env → Heap → Nat → Prop} : Wo F n0 ((i, ⟨d, none, (.bin op tag x y), [], none⟩) :: l) e h n Q ↔ ovw F ((binA op tag (x.ev e) (y.ev e)).map .d) n0 l e d h n Q := ov_of rfl rfl v_bin
theorem v_un {n0 i : Nat} {op : UnOp} {x : Opd} {e : Env} {h : Heap} : evOp (.un op x) e h (n0 + i) = ((unA op (x.ev e)).map .d).map fun v => (v, h) := by
  simp only [evOp]; (repeat' split) <;> (try simp_all [vNil, vConv, vCvs, vS2b, vB2s, vSlS, vFld, vElt, vRow, vIdxa, vIdxA, vIdx, vIdxV, mapAt, vFound, vLook, vExt, vLen, vMax, vMin, vPick]) <;> (try (simp only [Bool.cond_eq_ite]; (repeat' split) <;> simp_all [vNil, vConv, vCvs, vS2b, vB2s, vSlS, vFld, vElt, vRow, vIdxa, vIdxA, vIdx, vIdxV, mapAt, vFound, vLook, vExt, vLen, vMax, vMin, vPick]))
@[simp] theorem o_un {n0 i : Nat} {d : Option Nat} {op : UnOp} {x : Opd} {l : List (Nat × COper)} {e : Env} {h : Heap} {n : Nat} {Q : Env → Heap → Nat → Prop} : Wo F n0 ((i, ⟨d, none, (.un op x), [], none⟩) :: l) e h n Q ↔ ovw F ((unA op (x.ev e)).map .d) n0 l e d h n Q := ov_of rfl rfl v_un
theorem v_conv {n0 i : Nat} {k : IntKind} {x : Opd} {e : Env} {h : Heap} : evOp (.conv k x) e h (n0 + i) = (vConv k (x.ev e)).map fun v => (v, h) := by
  simp only [evOp]; (repeat' split) <;> (try simp_all [vNil, vConv, vCvs, vS2b, vB2s, vSlS, vFld, vElt, vRow, vIdxa, vIdxA, vIdx, vIdxV, mapAt, vFound, vLook, vExt, vLen, vMax, vMin, vPick]) <;> (try (simp only [Bool.cond_eq_ite]; (repeat' split) <;> simp_all [vNil, vConv, vCvs, vS2b, vB2s, vSlS, vFld, vElt, vRow, vIdxa, vIdxA, vIdx, vIdxV, mapAt, vFound, vLook, vExt, vLen, vMax, vMin, vPick]))
@[simp] theorem o_conv {n0 i : Nat} {d : Option Nat} {k : IntKind} {x : Opd} {l : List (Nat × COper)} {e : Env} {h : Heap} {n : Nat} {Q : Env → Heap → Nat → Prop} : Wo F n0 ((i, ⟨d, none, (.conv k x), [], none⟩) :: l) e h n Q ↔ ovw F (vConv k (x.ev e)) n0 l e d h n Q := ov_of rfl rfl v_conv
theorem v_cvs {n0 i : Nat} {x : Opd} {e : Env} {h : Heap} : evOp (.cvs x) e h (n0 + i) = (vCvs (x.ev e)).map fun v => (v, h) := by
  simp only [evOp]; (repeat' split) <;> (try simp_all [vNil, vConv, vCvs, vS2b, vB2s, vSlS, vFld, vElt, vRow, vIdxa, vIdxA, vIdx, vIdxV, mapAt, vFound, vLook, vExt, vLen, vMax, vMin, vPick]) <;> (try (simp only [Bool.cond_eq_ite]; (repeat' split) <;> simp_all [vNil, vConv, vCvs, vS2b, vB2s, vSlS, vFld, vElt, vRow, vIdxa, vIdxA, vIdx, vIdxV, mapAt, vFound, vLook, vExt, vLen, vMax, vMin, vPick]))
@[simp] theorem o_cvs {n0 i : Nat} {d : Option Nat} {x : Opd} {l : List (Nat × COper)} {e : Env} {h : Heap} {n : Nat} {Q : Env → Heap → Nat → Prop} : Wo F n0 ((i, ⟨d, none, (.cvs x), [], none⟩) :: l) e h n Q ↔ ovw F (vCvs (x.ev e)) n0 l e d h n Q := ov_of rfl rfl v_cvs
theorem v_s2b {n0 i : Nat} {x : Opd} {e : Env} {h : Heap} : evOp (.s2b x) e h (n0 + i) = (vS2b (x.ev e)).map fun v => (v, h) := by
  simp only [evOp]; (repeat' split) <;> (try simp_all [vNil, vConv, vCvs, vS2b, vB2s, vSlS, vFld, vElt, vRow, vIdxa, vIdxA, vIdx, vIdxV, mapAt, vFound, vLook, vExt, vLen, vMax, vMin, vPick]) <;> (try (simp only [Bool.cond_eq_ite]; (repeat' split) <;> simp_all [vNil, vConv, vCvs, vS2b, vB2s, vSlS, vFld, vElt, vRow, vIdxa, vIdxA, vIdx, vIdxV, mapAt, vFound, vLook, vExt, vLen, vMax, vMin, vPick]))
@[simp] theorem o_s2b {n0 i : Nat} {d : Option Nat} {x : Opd} {l : List (Nat × COper)} {e : Env} {h : Heap} {n : Nat} {Q : Env → Heap → Nat → Prop} : Wo F n0 ((i, ⟨d, none, (.s2b x), [], none⟩) :: l) e h n Q ↔ ovw F (vS2b (x.ev e)) n0 l e d h n Q := ov_of rfl rfl v_s2b
theorem v_b2s {n0 i : Nat} {x : Opd} {e : Env} {h : Heap} : evOp (.b2s x) e h (n0 + i) = (vB2s (elems (x.ev e) h)).map fun v => (v, h) := by
  simp only [evOp]; (repeat' split) <;> (try simp_all [vNil, vConv, vCvs, vS2b, vB2s, vSlS, vFld, vElt, vRow, vIdxa, vIdxA, vIdx, vIdxV, mapAt, vFound, vLook, vExt, vLen, vMax, vMin, vPick]) <;> (try (simp only [Bool.cond_eq_ite]; (repeat' split) <;> simp_all [vNil, vConv, vCvs, vS2b, vB2s, vSlS, vFld, vElt, vRow, vIdxa, vIdxA, vIdx, vIdxV, mapAt, vFound, vLook, vExt, vLen, vMax, vMin, vPick]))
@[simp] theorem o_b2s {n0 i : Nat} {d : Option Nat} {x : Opd} {l : List (Nat × COper)} {e : Env} {h : Heap} {n : Nat} {Q : Env → Heap → Nat → Prop} : Wo F n0 ((i, ⟨d, none, (.b2s x), [], none⟩) :: l) e h n Q ↔ ovw F (vB2s (elems (x.ev e) h)) n0 l e d h n Q := ov_of rfl rfl v_b2s
theorem v_build {n0 i : Nat} {zs : List AV} {ps : List (Nat × Nat × Opd)} {e : Env} {h : Heap} : evOp (.build zs ps) e h (n0 + i) = ((fillV e ps zs).map .ag).map fun v => (v, h) := by
  simp only [evOp]; (repeat' split) <;> (try simp_all [vNil, vConv, vCvs, vS2b, vB2s, vSlS, vFld, vElt, vRow, vIdxa, vIdxA, vIdx, vIdxV, mapAt, vFound, vLook, vExt, vLen, vMax, vMin, vPick]) <;> (try (simp only [Bool.cond_eq_ite]; (repeat' split) <;> simp_all [vNil, vConv, vCvs, vS2b, vB2s, vSlS, vFld, vElt, vRow, vIdxa, vIdxA, vIdx, vIdxV, mapAt, vFound, vLook, vExt, vLen, vMax, vMin, vPick]))
@[simp] theorem o_build {n0 i : Nat} {d : Option Nat} {zs : List AV} {ps : List (Nat × Nat × Opd)} {l : List (Nat × COper)} {e : Env} {h : Heap} {n : Nat} {Q : Env → Heap → Nat → Prop} : Wo F n0 ((i, ⟨d, none, (.build zs ps), [], none⟩) :: l) e h n Q ↔ ovw F ((fillV e ps zs).map .ag) n0 l e d h n Q := ov_of rfl rfl v_build
theorem v_mkf {n0 i : Nat} {g : Nat} {a b : List Opd} {e : Env} {h : Heap} : evOp (.mkf g a b) e h (n0 + i) = (bif (evs e a).all okV && (evs e b).all okV then some (.f g (evs e a) (evs e b)) else none).map fun v => (v, h) := by
  simp only [evOp]; (repeat' split) <;> (try simp_all [vNil, vConv, vCvs, vS2b, vB2s, vSlS, vFld, vElt, vRow, vIdxa, vIdxA, vIdx, vIdxV, mapAt, vFound, vLook, vExt, vLen, vMax, vMin, vPick]) <;> (try (simp only [Bool.cond_eq_ite]; (repeat' split) <;> simp_all [vNil, vConv, vCvs, vS2b, vB2s, vSlS, vFld, vElt, vRow, vIdxa, vIdxA, vIdx, vIdxV, mapAt, vFound, vLook, vExt, vLen, vMax, vMin, vPick]))
@[simp] theorem o_mkf {n0 i : Nat} {d : Option Nat} {g : Nat} {a b : List Opd} {l : List (Nat × COper)} {e : Env} {h : Heap} {n : Nat} {Q : Env → Heap → Nat → Prop} : Wo F n0 ((i, ⟨d, none, (.mkf g a b), [], none⟩) :: l) e h n Q ↔ ovw F (bif (evs e a).all okV && (evs e b).all okV then some (.f g (evs e a) (evs e b)) else none) n0 l e d h n Q := ov_of rfl rfl v_mkf
theorem v_slS {n0 i : Nat} {x : Opd} {lo hi : Option Opd} {e : Env} {h : Heap} : evOp (.slS x lo hi) e h (n0 + i) = (vSlS e (x.ev e) lo hi).map fun v => (v, h) := by
  simp only [evOp]; (repeat' split) <;> (try simp_all [vNil, vConv, vCvs, vS2b, vB2s, vSlS, vFld, vElt, vRow, vIdxa, vIdxA, vIdx, vIdxV, mapAt, vFound, vLook, vExt, vLen, vMax, vMin, vPick]) <;> (try (simp only [Bool.cond_eq_ite]; (repeat' split) <;> simp_all [vNil, vConv, vCvs, vS2b, vB2s, vSlS, vFld, vElt, vRow, vIdxa, vIdxA, vIdx, vIdxV, mapAt, vFound, vLook, vExt, vLen, vMax, vMin, vPick]))
@[simp] theorem o_slS {n0 i : Nat} {d : Option Nat} {x : Opd} {lo hi : Option Opd} {l : List (Nat × COper)} {e : Env} {h : Heap} {n : Nat} {Q : Env → Heap → Nat → Prop} : Wo F n0 ((i, ⟨d, none, (.slS x lo hi), [], none⟩) :: l) e h n Q ↔ ovw F (vSlS e (x.ev e) lo hi) n0 l e d h n Q := ov_of rfl rfl v_slS
theorem v_sl {n0 i : Nat} {s : Nat} {x : Opd} {lo hi mx : Option Opd} {e : Env} {h : Heap} : evOp (.sl s x lo hi mx) e h (n0 + i) = ((evOp (.sl s x lo hi mx) e h (n0 + i)).map (·.1)).map fun v => (v, h) := by
  simp only [evOp]; (repeat' split) <;> (try simp_all [vNil, vConv, vCvs, vS2b, vB2s, vSlS, vFld, vElt, vRow, vIdxa, vIdxA, vIdx, vIdxV, mapAt, vFound, vLook, vExt, vLen, vMax, vMin, vPick]) <;> (try (simp only [Bool.cond_eq_ite]; (repeat' split) <;> simp_all [vNil, vConv, vCvs, vS2b, vB2s, vSlS, vFld, vElt, vRow, vIdxa, vIdxA, vIdx, vIdxV, mapAt, vFound, vLook, vExt, vLen, vMax, vMin, vPick]))
theorem o_sl {n0 i : Nat} {d : Option Nat} {s : Nat} {x : Opd} {lo hi mx : Option Opd} {l : List (Nat × COper)} {e : Env} {h : Heap} {n : Nat} {Q : Env → Heap → Nat → Prop} : Wo F n0 ((i, ⟨d, none, (.sl s x lo hi mx), [], none⟩) :: l) e h n Q ↔ ovw F ((evOp (.sl s x lo hi mx) e h (n0 + i)).map (·.1)) n0 l e d h n Q := ov_of rfl rfl v_sl
theorem v_fld {n0 i : Nat} {o : Nat} {x : Opd} {e : Env} {h : Heap} : evOp (.fld o x) e h (n0 + i) = (vFld o (x.ev e)).map fun v => (v, h) := by
  simp only [evOp]; (repeat' split) <;> (try simp_all [vNil, vConv, vCvs, vS2b, vB2s, vSlS, vFld, vElt, vRow, vIdxa, vIdxA, vIdx, vIdxV, mapAt, vFound, vLook, vExt, vLen, vMax, vMin, vPick]) <;> (try (simp only [Bool.cond_eq_ite]; (repeat' split) <;> simp_all [vNil, vConv, vCvs, vS2b, vB2s, vSlS, vFld, vElt, vRow, vIdxa, vIdxA, vIdx, vIdxV, mapAt, vFound, vLook, vExt, vLen, vMax, vMin, vPick]))
@[simp] theorem o_fld {n0 i : Nat} {d : Option Nat} {o : Nat} {x : Opd} {l : List (Nat × COper)} {e : Env} {h : Heap} {n : Nat} {Q : Env → Heap → Nat → Prop} : Wo F n0 ((i, ⟨d, none, (.fld o x), [], none⟩) :: l) e h n Q ↔ ovw F (vFld o (x.ev e)) n0 l e d h n Q := ov_of rfl rfl v_fld
theorem v_idxa {n0 i : Nat} {s : Nat} {x y : Opd} {e : Env} {h : Heap} : evOp (.idxa s x y) e h (n0 + i) = (vIdxa s (x.ev e) (natA (y.ev e)) h).map fun v => (v, h) := by
  simp only [evOp]; (repeat' split) <;> (try simp_all [vNil, vConv, vCvs, vS2b, vB2s, vSlS, vFld, vElt, vRow, vIdxa, vIdxA, vIdx, vIdxV, mapAt, vFound, vLook, vExt, vLen, vMax, vMin, vPick]) <;> (try (simp only [Bool.cond_eq_ite]; (repeat' split) <;> simp_all [vNil, vConv, vCvs, vS2b, vB2s, vSlS, vFld, vElt, vRow, vIdxa, vIdxA, vIdx, vIdxV, mapAt, vFound, vLook, vExt, vLen, vMax, vMin, vPick]))
@[simp] theorem o_idxa {n0 i : Nat} {d : Option Nat} {s : Nat} {x y : Opd} {l : List (Nat × COper)} {e : Env} {h : Heap} {n : Nat} {Q : Env → Heap → Nat → Prop} : Wo F n0 ((i, ⟨d, none, (.idxa s x y), [], none⟩) :: l) e h n Q ↔ ovw F (vIdxa s (x.ev e) (natA (y.ev e)) h) n0 l e d h n Q := ov_of rfl rfl v_idxa
theorem v_idxA {n0 i : Nat} {m s : Nat} {x y : Opd} {e : Env} {h : Heap} : evOp (.idxA m s x y) e h (n0 + i) = (vIdxA m s (x.ev e) (natA (y.ev e))).map fun v => (v, h) := by
  simp only [evOp]; (repeat' split) <;> (try simp_all [vNil, vConv, vCvs, vS2b, vB2s, vSlS, vFld, vElt, vRow, vIdxa, vIdxA, vIdx, vIdxV, mapAt, vFound, vLook, vExt, vLen, vMax, vMin, vPick]) <;> (try (simp only [Bool.cond_eq_ite]; (repeat' split) <;> simp_all [vNil, vConv, vCvs, vS2b, vB2s, vSlS, vFld, vElt, vRow, vIdxa, vIdxA, vIdx, vIdxV, mapAt, vFound, vLook, vExt, vLen, vMax, vMin, vPick]))
@[simp] theorem o_idxA {n0 i : Nat} {d : Option Nat} {m s : Nat} {x y : Opd} {l : List (Nat × COper)} {e : Env} {h : Heap} {n : Nat} {Q : Env → Heap → Nat → Prop} : Wo F n0 ((i, ⟨d, none, (.idxA m s x y), [], none⟩) :: l) e h n Q ↔ ovw F (vIdxA m s (x.ev e) (natA (y.ev e))) n0 l e d h n Q := ov_of rfl rfl v_idxA
theorem v_idx {n0 i : Nat} {x y : Opd} {e : Env} {h : Heap} : evOp (.idx x y) e h (n0 + i) = (vIdx (x.ev e) (natA (y.ev e))).map fun v => (v, h) := by
  simp only [evOp]
  generalize natA (y.ev e) = i
  generalize x.ev e = v
  cases i with
  | none => cases v with
    | d dd => cases dd <;> rfl
    | _ => rfl
  | some i => cases v with
    | d dd => cases dd with
      | s t => simp only [vIdx]; cases t.data[i]? <;> rfl
      | _ => rfl
    | _ => rfl
@[simp] theorem o_idx {n0 i : Nat} {d : Option Nat} {x y : Opd} {l : List (Nat × COper)} {e : Env} {h : Heap} {n : Nat} {Q : Env → Heap → Nat → Prop} : Wo F n0 ((i, ⟨d, none, (.idx x y), [], none⟩) :: l) e h n Q ↔ ovw F (vIdx (x.ev e) (natA (y.ev e))) n0 l e d h n Q := ov_of rfl rfl v_idx
theorem v_idxV {n0 i : Nat} {m s : Nat} {b : Bool} {x y : Opd} {e : Env} {h : Heap} : evOp (.idxV m s b x y) e h (n0 + i) = (vIdxV m s b (x.ev e) (natA (y.ev e))).map fun v => (v, h) := by
  simp only [evOp]; (repeat' split) <;> (try simp_all [vNil, vConv, vCvs, vS2b, vB2s, vSlS, vFld, vElt, vRow, vIdxa, vIdxA, vIdx, vIdxV, mapAt, vFound, vLook, vExt, vLen, vMax, vMin, vPick]) <;> (try (simp only [Bool.cond_eq_ite]; (repeat' split) <;> simp_all [vNil, vConv, vCvs, vS2b, vB2s, vSlS, vFld, vElt, vRow, vIdxa, vIdxA, vIdx, vIdxV, mapAt, vFound, vLook, vExt, vLen, vMax, vMin, vPick]))
@[simp] theorem o_idxV {n0 i : Nat} {d : Option Nat} {m s : Nat} {b : Bool} {x y : Opd} {l : List (Nat × COper)} {e : Env} {h : Heap} {n : Nat} {Q : Env → Heap → Nat → Prop} : Wo F n0 ((i, ⟨d, none, (.idxV m s b x y), [], none⟩) :: l) e h n Q ↔ ovw F (vIdxV m s b (x.ev e) (natA (y.ev e))) n0 l e d h n Q := ov_of rfl rfl v_idxV
theorem v_look {n0 i : Nat} {b : Bool} {z : AV} {x k : Opd} {ok : Bool} {e : Env} {h : Heap} : evOp (.look b z x k ok) e h (n0 + i) = (vLook b z ok (x.ev e) (k.ev e) h).map fun v => (v, h) := by
  simp only [evOp]
  cases k.ev e with
  | d kk =>
    simp only [vLook]
    cases isKey b kk with
    | false => rfl
    | true =>
      simp only [cond_true]
      change (match mapAt (x.ev e) kk h with | some (some v) => some (bif ok then AV.tu [v, .d (.b true)] else v, h) | some none => some (bif ok then AV.tu [z, .d (.b false)] else z, h) | none => none) = _
      cases mapAt (x.ev e) kk h with
      | none => rfl
      | some r => cases r <;> rfl
  | _ => rfl
@[simp] theorem o_look {n0 i : Nat} {d : Option Nat} {b : Bool} {z : AV} {x k : Opd} {ok : Bool} {l : List (Nat × COper)} {e : Env} {h : Heap} {n : Nat} {Q : Env → Heap → Nat → Prop} : Wo F n0 ((i, ⟨d, none, (.look b z x k ok), [], none⟩) :: l) e h n Q ↔ ovw F (vLook b z ok (x.ev e) (k.ev e) h) n0 l e d h n Q := ov_of rfl rfl v_look
theorem v_ext {n0 i : Nat} {x : Opd} {j : Nat} {e : Env} {h : Heap} : evOp (.ext x j) e h (n0 + i) = (vExt j (x.ev e)).map fun v => (v, h) := by
  simp only [evOp]; (repeat' split) <;> (try simp_all [vNil, vConv, vCvs, vS2b, vB2s, vSlS, vFld, vElt, vRow, vIdxa, vIdxA, vIdx, vIdxV, mapAt, vFound, vLook, vExt, vLen, vMax, vMin, vPick]) <;> (try (simp only [Bool.cond_eq_ite]; (repeat' split) <;> simp_all [vNil, vConv, vCvs, vS2b, vB2s, vSlS, vFld, vElt, vRow, vIdxa, vIdxA, vIdx, vIdxV, mapAt, vFound, vLook, vExt, vLen, vMax, vMin, vPick]))
@[simp] theorem o_ext {n0 i : Nat} {d : Option Nat} {x : Opd} {j : Nat} {l : List (Nat × COper)} {e : Env} {h : Heap} {n : Nat} {Q : Env → Heap → Nat → Prop} : Wo F n0 ((i, ⟨d, none, (.ext x j), [], none⟩) :: l) e h n Q ↔ ovw F (vExt j (x.ev e)) n0 l e d h n Q := ov_of rfl rfl v_ext
theorem v_len {n0 i : Nat} {b : Bool} {x : Opd} {e : Env} {h : Heap} : evOp (.len b x) e h (n0 + i) = (vLen b (x.ev e)).map fun v => (v, h) := by
  simp only [evOp]; (repeat' split) <;> (try simp_all [vNil, vConv, vCvs, vS2b, vB2s, vSlS, vFld, vElt, vRow, vIdxa, vIdxA, vIdx, vIdxV, mapAt, vFound, vLook, vExt, vLen, vMax, vMin, vPick]) <;> (try (simp only [Bool.cond_eq_ite]; (repeat' split) <;> simp_all [vNil, vConv, vCvs, vS2b, vB2s, vSlS, vFld, vElt, vRow, vIdxa, vIdxA, vIdx, vIdxV, mapAt, vFound, vLook, vExt, vLen, vMax, vMin, vPick]))
@[simp] theorem o_len {n0 i : Nat} {d : Option Nat} {b : Bool} {x : Opd} {l : List (Nat × COper)} {e : Env} {h : Heap} {n : Nat} {Q : Env → Heap → Nat → Prop} : Wo F n0 ((i, ⟨d, none, (.len b x), [], none⟩) :: l) e h n Q ↔ ovw F (vLen b (x.ev e)) n0 l e d h n Q := ov_of rfl rfl v_len
theorem v_max {n0 i : Nat} {x y : Opd} {e : Env} {h : Heap} : evOp (.max x y) e h (n0 + i) = (vMax (x.ev e) (y.ev e)).map fun v => (v, h) := by
  simp only [evOp]; (repeat' split) <;> (try simp_all [vNil, vConv, vCvs, vS2b, vB2s, vSlS, vFld, vElt, vRow, vIdxa, vIdxA, vIdx, vIdxV, mapAt, vFound, vLook, vExt, vLen, vMax, vMin, vPick]) <;> (try (simp only [Bool.cond_eq_ite]; (repeat' split) <;> simp_all [vNil, vConv, vCvs, vS2b, vB2s, vSlS, vFld, vElt, vRow, vIdxa, vIdxA, vIdx, vIdxV, mapAt, vFound, vLook, vExt, vLen, vMax, vMin, vPick]))
@[simp] theorem o_max {n0 i : Nat} {d : Option Nat} {x y : Opd} {l : List (Nat × COper)} {e : Env} {h : Heap} {n : Nat} {Q : Env → Heap → Nat → Prop} : Wo F n0 ((i, ⟨d, none, (.max x y), [], none⟩) :: l) e h n Q ↔ ovw F (vMax (x.ev e) (y.ev e)) n0 l e d h n Q := ov_of rfl rfl v_max
theorem v_min {n0 i : Nat} {x y : Opd} {e : Env} {h : Heap} : evOp (.min x y) e h (n0 + i) = (vMin (x.ev e) (y.ev e)).map fun v => (v, h) := by
  simp only [evOp]; (repeat' split) <;> (try simp_all [vNil, vConv, vCvs, vS2b, vB2s, vSlS, vFld, vElt, vRow, vIdxa, vIdxA, vIdx, vIdxV, mapAt, vFound, vLook, vExt, vLen, vMax, vMin, vPick]) <;> (try (simp only [Bool.cond_eq_ite]; (repeat' split) <;> simp_all [vNil, vConv, vCvs, vS2b, vB2s, vSlS, vFld, vElt, vRow, vIdxa, vIdxA, vIdx, vIdxV, mapAt, vFound, vLook, vExt, vLen, vMax, vMin, vPick]))
@[simp] theorem o_min {n0 i : Nat} {d : Option Nat} {x y : Opd} {l : List (Nat × COper)} {e : Env} {h : Heap} {n : Nat} {Q : Env → Heap → Nat → Prop} : Wo F n0 ((i, ⟨d, none, (.min x y), [], none⟩) :: l) e h n Q ↔ ovw F (vMin (x.ev e) (y.ev e)) n0 l e d h n Q := ov_of rfl rfl v_min
theorem v_pick {n0 i : Nat} {c a b : Opd} {e : Env} {h : Heap} : evOp (.pick c a b) e h (n0 + i) = (vPick (c.ev e) (a.ev e) (b.ev e)).map fun v => (v, h) := by
  simp only [evOp]; (repeat' split) <;> (try simp_all [vNil, vConv, vCvs, vS2b, vB2s, vSlS, vFld, vElt, vRow, vIdxa, vIdxA, vIdx, vIdxV, mapAt, vFound, vLook, vExt, vLen, vMax, vMin, vPick]) <;> (try (simp only [Bool.cond_eq_ite]; (repeat' split) <;> simp_all [vNil, vConv, vCvs, vS2b, vB2s, vSlS, vFld, vElt, vRow, vIdxa, vIdxA, vIdx, vIdxV, mapAt, vFound, vLook, vExt, vLen, vMax, vMin, vPick]))
@[simp] theorem o_pick {n0 i : Nat} {d : Option Nat} {c a b : Opd} {l : List (Nat × COper)} {e : Env} {h : Heap} {n : Nat} {Q : Env → Heap → Nat → Prop} : Wo F n0 ((i, ⟨d, none, (.pick c a b), [], none⟩) :: l) e h n Q ↔ ovw F (vPick (c.ev e) (a.ev e) (b.ev e)) n0 l e d h n Q := ov_of rfl rfl v_pick

theorem al_of {c : COp} {k : Nat} {ob : Ob} {v : AV} {n0 i : Nat} {d : Option Nat} {l : List (Nat × COper)} {e : Env} {h : Heap} {n : Nat} {Q : Env → Heap → Nat → Prop} (hc : isCall c = false) (hf : fresh h (n0 + i) c = (h.get (n0 + i)).isNone) (hr : evOp c e h (n0 + i) = some (v, h.set (n0 + i) ob)) :
    Wo F n0 ((i, ⟨d, none, c, [], none⟩) :: l) e h n Q ↔ h.get (n0 + i) = none ∧ Wo F n0 l (putE e d v) (h.set (n0 + i) ob) n Q := by
  rw [op_iff hc, hr, hf]
  simp
@[simp] theorem o_alloc {n0 i : Nat} {d : Option Nat} {zs : List AV} {l : List (Nat × COper)} {e : Env} {h : Heap} {n : Nat} {Q : Env → Heap → Nat → Prop} : Wo F n0 ((i, ⟨d, none, .alloc zs, [], none⟩) :: l) e h n Q ↔ h.get (n0 + i) = none ∧ Wo F n0 l (putE e d (.p (n0 + i) 0)) (h.set (n0 + i) (.box zs)) n Q := al_of (k := 0) rfl rfl rfl
@[simp] theorem o_mkmap {n0 i : Nat} {d : Option Nat} {l : List (Nat × COper)} {e : Env} {h : Heap} {n : Nat} {Q : Env → Heap → Nat → Prop} : Wo F n0 ((i, ⟨d, none, .mkmap, [], none⟩) :: l) e h n Q ↔ h.get (n0 + i) = none ∧ Wo F n0 l (putE e d (.m (n0 + i))) (h.set (n0 + i) (.map [] [])) n Q := al_of (k := 0) rfl rfl rfl
/-- A new variable with a value. -/
def bxw (F : Nat → Option CFun) (r : Option (List AV)) (k n0 : Nat) (l : List (Nat × COper)) (e : Env) (d : Option Nat) (h : Heap) (n : Nat) (Q : Env → Heap → Nat → Prop) : Prop := h.get k = none ∧ ∃ cs, r = some cs ∧ Wo F n0 l (putE e d (.p k 0)) (h.set k (.box cs)) n Q
@[simp] theorem bxw_some {cs : List AV} {k n0 : Nat} {d : Option Nat} {l : List (Nat × COper)} {e : Env} {h : Heap} {n : Nat} {Q : Env → Heap → Nat → Prop} : bxw F (some cs) k n0 l e d h n Q ↔ h.get k = none ∧ Wo F n0 l (putE e d (.p k 0)) (h.set k (.box cs)) n Q := by
  unfold bxw
  exact and_congr_right fun _ => ⟨fun ⟨v1, h1, h2⟩ => by cases h1; exact h2, fun h => ⟨cs, rfl, h⟩⟩
@[simp] theorem o_box {n0 i : Nat} {d : Option Nat} {x : Opd} {l : List (Nat × COper)} {e : Env} {h : Heap} {n : Nat} {Q : Env → Heap → Nat → Prop} : Wo F n0 ((i, ⟨d, none, .box x, [], none⟩) :: l) e h n Q ↔ bxw F (cellsV (x.ev e)) (n0 + i) n0 l e d h n Q := by
  rw [op_iff rfl]
  simp only [evOp, fresh]
  cases cellsV (x.ev e) with
  | none => simp [opw, bxw]
  | some cs => simp
@[simp] theorem o_store {n0 i : Nat} {d : Option Nat} {s : Nat} {a v : Opd} {l : List (Nat × COper)} {e : Env} {h : Heap} {n : Nat} {Q : Env → Heap → Nat → Prop} : Wo F n0 ((i, ⟨d, none, .store s a v, [], none⟩) :: l) e h n Q ↔ ohw F (storeA s (a.ev e) (v.ev e) h) n0 l e d n Q := oh_of rfl rfl (by simp only [evOp]; cases storeA s (a.ev e) (v.ev e) h <;> rfl)
/-- A map's new contents. -/
def mpUp (m : AV) (v : AV) (str : Bool) (h : Heap) : AV → Option Heap
  | .d k => (match m with
    | .m a => bif isKey str k then (match h.get a, cellsV v with
      | some (.map ks vs), some _ => (match updA k v ks vs with
        | some (ks, vs) => some (h.set a (.map ks vs))
        | none => none)
      | _, _ => none) else none
    | _ => none)
  | _ => none
@[simp] theorem o_mupd {n0 i : Nat} {d : Option Nat} {b : Bool} {m k v : Opd} {l : List (Nat × COper)} {e : Env} {h : Heap} {n : Nat} {Q : Env → Heap → Nat → Prop} : Wo F n0 ((i, ⟨d, none, .mupd b m k v, [], none⟩) :: l) e h n Q ↔ ohw F (mpUp (m.ev e) (v.ev e) b h (k.ev e)) n0 l e d n Q := oh_of rfl rfl (by
  simp only [evOp]
  generalize m.ev e = M
  generalize k.ev e = K
  generalize v.ev e = V
  cases M <;> cases K <;> try rfl
  rename_i a kk
  simp only [mpUp]
  cases isKey b kk with
  | false => rfl
  | true =>
    simp only [cond_true]
    cases h.get a with
    | none => rfl
    | some ob => cases ob with
      | map ks vs =>
        cases cellsV V with
        | none => rfl
        | some cs =>
          dsimp only
          cases updA kk V ks vs with
          | none => rfl
          | some p => rfl
      | _ => rfl)
@[simp] theorem o_bslice {n0 i : Nat} {d : Option Nat} {z : Bool} {zs : List D} {len : Nat} {ps : List (Nat × Opd)} {l : List (Nat × COper)} {e : Env} {h : Heap} {n : Nat} {Q : Env → Heap → Nat → Prop} : Wo F n0 ((i, ⟨d, none, .bslice z zs len ps, [], none⟩) :: l) e h n Q ↔ opw F (evOp (.bslice z zs len ps) e h (n0 + i)) (fun _ _ => true) n0 l e d n Q := op_iff rfl
@[simp] theorem o_app {n0 i : Nat} {d : Option Nat} {s : Nat} {x y : Opd} {l : List (Nat × COper)} {e : Env} {h : Heap} {n : Nat} {Q : Env → Heap → Nat → Prop} : Wo F n0 ((i, ⟨d, none, .app s x y, [], none⟩) :: l) e h n Q ↔ opw F (evOp (.app s x y) e h (n0 + i)) (fun _ _ => true) n0 l e d n Q := op_iff rfl
@[simp] theorem o_copy {n0 i : Nat} {d : Option Nat} {s : Nat} {x y : Opd} {l : List (Nat × COper)} {e : Env} {h : Heap} {n : Nat} {Q : Env → Heap → Nat → Prop} : Wo F n0 ((i, ⟨d, none, .copy s x y, [], none⟩) :: l) e h n Q ↔ opw F (evOp (.copy s x y) e h (n0 + i)) (fun _ _ => true) n0 l e d n Q := op_iff rfl
@[simp] theorem o_clear {n0 i : Nat} {d : Option Nat} {zs : List D} {x : Opd} {l : List (Nat × COper)} {e : Env} {h : Heap} {n : Nat} {Q : Env → Heap → Nat → Prop} : Wo F n0 ((i, ⟨d, none, .clear zs x, [], none⟩) :: l) e h n Q ↔ opw F (evOp (.clear zs x) e h (n0 + i)) (fun _ _ => true) n0 l e d n Q := op_iff rfl
@[simp] theorem o_ins {n0 i : Nat} {d : Option Nat} {s : Nat} {x y z : Opd} {l : List (Nat × COper)} {e : Env} {h : Heap} {n : Nat} {Q : Env → Heap → Nat → Prop} : Wo F n0 ((i, ⟨d, none, .ins s x y z, [], none⟩) :: l) e h n Q ↔ opw F (evOp (.ins s x y z) e h (n0 + i)) (fun _ _ => true) n0 l e d n Q := op_iff rfl
@[simp] theorem o_sorted {n0 i : Nat} {d : Option Nat} {b : Bool} {g : Nat} {x : Opd} {l : List (Nat × COper)} {e : Env} {h : Heap} {n : Nat} {Q : Env → Heap → Nat → Prop} : Wo F n0 ((i, ⟨d, none, .sorted b g x, [], none⟩) :: l) e h n Q ↔ opw F (evOp (.sorted b g x) e h (n0 + i)) (fun _ _ => true) n0 l e d n Q := op_iff rfl
@[simp] theorem o_mkslice {n0 i : Nat} {d : Option Nat} {zs : List D} {a b : Opd} {l : List (Nat × COper)} {e : Env} {h : Heap} {n : Nat} {Q : Env → Heap → Nat → Prop} : Wo F n0 ((i, ⟨d, none, .mkslice zs a b, [], none⟩) :: l) e h n Q ↔ opw F (evOp (.mkslice zs a b) e h (n0 + i)) (fun _ _ => (h.get (n0 + i)).isNone) n0 l e d n Q := op_iff rfl
end
end Tm
