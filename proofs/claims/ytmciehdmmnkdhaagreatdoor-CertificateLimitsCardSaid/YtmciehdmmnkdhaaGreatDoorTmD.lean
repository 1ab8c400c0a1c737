/- The abstract machine on trees, part D. No statement of the seat is proved here. -/
import Derived.Test.YtmciehdmmnkdhaaGreatDoorTmC
set_option linter.unusedVariables false
set_option linter.unusedSimpArgs false
set_option linter.constructorNameAsVariable false
set_option linter.unusedSectionVars false
set_option linter.deprecated false
set_option linter.unnecessarySimpa false
/- Rows and variables that are written: lists of cells, and what holds of a block that is overwritten. No statement of the seat is proved here. -/
namespace Tm
open Go
set_option linter.unusedVariables false
set_option linter.unusedSimpArgs false
/-- The list with vs written at o. -/
def ov {α : Type} (cs : List α) (o : Nat) (vs : List α) : List α := cs.take o ++ vs ++ cs.drop (o + vs.length)
section
variable {α : Type}
theorem ov_len {cs : List α} {o : Nat} {vs : List α} (h : o + vs.length ≤ cs.length) : (ov cs o vs).length = cs.length := by
  simp only [ov, List.length_append, List.length_take, List.length_drop]; omega
theorem ov_nil {cs : List α} {o : Nat} : ov cs o [] = cs := by simp [ov]
theorem ov_take {cs : List α} {o n : Nat} {vs : List α} (h : n ≤ o) (h2 : o ≤ cs.length) : (ov cs o vs).take n = cs.take n := by
  unfold ov
  rw [List.append_assoc, List.take_append_of_le_length (by simp; omega), List.take_take, Nat.min_eq_left h]
theorem ov_drop {cs : List α} {o n : Nat} {vs : List α} (h : n ≤ o) (h2 : o ≤ cs.length) : (ov cs o vs).drop n = ov (cs.drop n) (o - n) vs := by
  unfold ov
  rw [List.append_assoc, List.append_assoc, List.drop_append_of_le_length (by simp; omega), List.drop_take, List.drop_drop]
  congr 3
  omega
theorem ov_ov {cs : List α} {o r s : Nat} {vs : List α} (h : r + vs.length ≤ s) (h2 : o + s ≤ cs.length) : ov cs (o + r) vs = ov cs o (ov ((cs.drop o).take s) r vs) := by
  have hl : (ov ((cs.drop o).take s) r vs).length = s := by rw [ov_len]; simp; omega; simp; omega
  have e1 : cs = cs.take o ++ ((cs.drop o).take s ++ cs.drop (o + s)) := by
    rw [← List.drop_drop, List.take_append_drop, List.take_append_drop]
  show ov cs (o + r) vs = cs.take o ++ ov ((cs.drop o).take s) r vs ++ cs.drop (o + (ov ((cs.drop o).take s) r vs).length)
  rw [hl]
  unfold ov
  have hto : (cs.take o).length = o := by simp; omega
  have hts : ((cs.drop o).take s).length = s := by simp; omega
  have g1 : cs.take (o + r) = cs.take o ++ ((cs.drop o).take s).take r := by
    rw [List.take_add, List.take_take, Nat.min_eq_left (by omega)]
  have g2 : cs.drop (o + r + vs.length) = ((cs.drop o).take s).drop (r + vs.length) ++ cs.drop (o + s) := by
    conv => lhs; rw [e1]
    rw [show o + r + vs.length = (cs.take o).length + (r + vs.length) by omega, List.drop_append, List.drop_append_of_le_length (by omega)]
    simp
  rw [g1, g2]
  simp only [List.append_assoc]
end
theorem putCells_eq : ∀ (i : Nat) (vs l : List AV), i + vs.length ≤ l.length → putCells i vs l = ov l i vs
  | i, [], l, _ => by rw [ov_nil]; cases i <;> cases l <;> rfl
  | 0, v :: vs, [], h => by simp at h
  | 0, v :: vs, x :: l, h => by
    have := putCells_eq 0 vs l (by simpa using h)
    simp only [putCells, this, ov, List.take_zero, List.nil_append, Nat.zero_add, List.length_cons, List.drop_succ_cons, List.cons_append]
  | i + 1, v :: vs, [], h => by simp at h
  | i + 1, v :: vs, x :: l, h => by
    have := putCells_eq i (v :: vs) l (by simp at h ⊢; omega)
    simp only [putCells, this, ov, List.take_succ_cons, List.cons_append]
    congr 2
    rw [show i + 1 + (v :: vs).length = (i + (v :: vs).length) + 1 by omega, List.drop_succ_cons]
section
variable {w : World} {fz : Nat → Nat}
theorem RDc.oc {x : D} {v : Value} (r : RDc w fz x [v]) (hn : nAg x = true) : v.oneCell' = true := by
  cases x with
  | ag l => simp [nAg] at hn
  | sl l => simp only [RDc, List.cons.injEq, and_true] at r; obtain ⟨a, c, rfl, _⟩ := r; rfl
  | se => simp only [RDc, List.cons.injEq, and_true] at r; obtain ⟨a, c, rfl⟩ := r; rfl
  | _ => simp only [RDc, List.cons.injEq, and_true] at r; subst r; rfl
theorem RDs.oc : ∀ {l : List D} {cs : List Value}, RDs w fz l cs → ∀ v ∈ cs, v.oneCell' = true
  | [], cs, r, v, hv => by simp only [RDs] at r; subst r; simp at hv
  | x :: l, cs, r, v, hv => by
    simp only [RDs] at r
    obtain ⟨u, t, rfl, hn, hx, hl⟩ := r
    rcases List.mem_cons.1 hv with rfl | hv
    · exact hx.oc hn
    · exact hl.oc v hv
theorem RRow.oc {s : Nat} : ∀ {l : List D} {cs : List Value}, RRow w fz s l cs → ∀ v ∈ cs.take (l.length * s), v.oneCell' = true
  | [], cs, r, v, hv => by simp at hv
  | x :: l, cs, r, v, hv => by
    simp only [RRow] at r
    rw [show (x :: l).length * s = s + l.length * s by simp [Nat.add_mul]; omega, List.take_add] at hv
    rcases List.mem_append.1 hv with hv | hv
    · exact (RDs.cellsD r.2.1).oc v hv
    · exact r.2.2.oc v hv
theorem RDs.ov {l vs : List D} {cs us : List Value} {i : Nat} (r : RDs w fz l cs) (r' : RDs w fz vs us) : RDs w fz (ov l i vs) (ov cs i us) := by
  unfold Tm.ov
  rw [r'.len]
  exact ((r.take i).app r').app (r.drop _)
theorem RRow.set {s : Nat} : ∀ {l : List D} {cs : List Value} {j : Nat} {d : D} {ns : List Value}, RRow w fz s l cs → j < l.length → RDc w fz d ns → ns.length = s → RRow w fz s (l.set j d) (Tm.ov cs (j * s) ns)
  | [], cs, j, d, ns, r, h, _, _ => by simp at h
  | x :: l, cs, 0, d, ns, r, h, hd, hn => by
    simp only [RRow] at r
    simp only [List.set_cons_zero, RRow, Nat.zero_mul, Tm.ov, List.take_zero, List.nil_append, Nat.zero_add, hn]
    refine ⟨by simp [hn], ?_, ?_⟩
    · rw [List.take_append_of_le_length (by omega), List.take_of_length_le (by omega)]; exact hd
    · rw [List.drop_append_of_le_length (by omega), List.drop_of_length_le (by omega), List.nil_append]; exact r.2.2
  | x :: l, cs, j + 1, d, ns, r, h, hd, hn => by
    have hlen := r.len
    simp only [RRow] at r
    have ih := RRow.set r.2.2 (by simpa using h) hd hn
    have hj : (j + 1) * s ≤ cs.length := by
      refine Nat.le_trans (Nat.mul_le_mul_right s ?_) hlen
      exact Nat.le_of_lt h
    have e1 : (j + 1) * s = s + j * s := by rw [Nat.add_mul]; omega
    simp only [List.set_cons_succ, RRow]
    refine ⟨?_, ?_, ?_⟩
    · unfold Tm.ov; simp; omega
    · rw [ov_take (by omega) hj]; exact r.2.1
    · rw [ov_drop (by omega) hj, e1, Nat.add_sub_cancel_left]; exact ih
end
section
variable {I : Inj} {M : Mem}
theorem RVc.oc {x : AV} {v : Value} (r : RVc I M x [v]) (hn : nAgV x = true) : v.oneCell' = true := by
  cases x with
  | d x => simp only [RVc] at r; exact r.oc (by cases x <;> first | rfl | exact hn)
  | u => simp [nAgV] at hn
  | tu => simp [nAgV] at hn
  | ag => simp [nAgV] at hn
  | p => simp only [RVc, List.cons.injEq, and_true] at r; obtain ⟨q, _, rfl⟩ := r; rfl
  | pe => simp only [RVc, List.cons.injEq, and_true] at r; obtain ⟨b, o, rfl, _⟩ := r; rfl
  | zl => simp only [RVc, List.cons.injEq, and_true] at r; obtain ⟨a, rfl, _⟩ := r; rfl
  | bs => simp only [RVc, List.cons.injEq, and_true] at r; obtain ⟨a, c, rfl, _⟩ := r; rfl
  | sl => simp only [RVc, List.cons.injEq, and_true] at r; obtain ⟨q, A, _, rfl, _⟩ := r; rfl
  | m => simp only [RVc, List.cons.injEq, and_true] at r; obtain ⟨q, _, rfl⟩ := r; rfl
  | mp => simp only [RVc, List.cons.injEq, and_true] at r; obtain ⟨b, es, ck, rfl, _⟩ := r; rfl
  | f => simp only [RVc, List.cons.injEq, and_true] at r; obtain ⟨a, b, rfl, _⟩ := r; rfl
  | _ => simp only [RVc, List.cons.injEq, and_true] at r; subst r; rfl
theorem RVs.oc : ∀ {l : List AV} {cs : List Value}, RVs I M l cs → ∀ v ∈ cs, v.oneCell' = true
  | [], cs, r, v, hv => by simp only [RVs] at r; subst r; simp at hv
  | x :: l, cs, r, v, hv => by
    simp only [RVs] at r
    obtain ⟨u, t, rfl, hn, hx, hl⟩ := r
    rcases List.mem_cons.1 hv with rfl | hv
    · exact hx.oc hn
    · exact hl.oc v hv
theorem RVs.ov {l vs : List AV} {cs us : List Value} {i : Nat} (r : RVs I M l cs) (r' : RVs I M vs us) : RVs I M (Tm.ov l i vs) (Tm.ov cs i us) := by
  unfold Tm.ov
  rw [r'.len]
  exact ((r.take i).app r').app (r.drop _)
/-- Memory with the cells of a block set. -/
def Mem.setR (M : Mem) (b : Nat) (cs : List Value) : Mem := ⟨M.w.setRow b cs.toArray, M.fz, M.lo⟩
theorem setR_at {b : Nat} {c : Array Value} {el : TypeId} {fr : Nat × Nat} {cs : List Value} (hb : M.w.heap[b]? = some (.cells c el fr)) : (M.setR b cs).w.heap[b]? = some (.cells cs.toArray el fr) := setRow_heap _ _ _ _ _ _ hb
theorem setR_same {b b' : Nat} {cs : List Value} (hb : b' ≠ b) : Same M (M.setR b cs) b' := ⟨setRow_other _ _ _ _ hb, rfl⟩
theorem cellsOf_setR {b b' : Nat} {c : Array Value} {el : TypeId} {fr : Nat × Nat} {cs : List Value} (hb : M.w.heap[b]? = some (.cells c el fr)) : cellsOf (M.setR b cs).w b' = if b' = b then cs else cellsOf M.w b' := by
  by_cases hbb : b' = b
  · subst hbb; rw [if_pos rfl, cellsOf_at (setR_at hb)]
  · rw [if_neg hbb]; unfold cellsOf; rw [(setR_same hbb).1]
theorem setR_ext {b : Nat} {c : Array Value} {el : TypeId} {fr : Nat × Nat} {cs : List Value} (hb : M.w.heap[b]? = some (.cells c el fr)) (hlo : M.lo ≤ b) (hf : cs.take (M.fz b) = c.toList.take (M.fz b)) : Ext M (M.setR b cs) where
  lo := rfl
  os := rfl
  tape := rfl
  out := rfl
  size := by simp [Mem.setR]
  low := fun b' hb' => (setR_same (show b' ≠ b by omega)).1
  fz := fun _ => Nat.le_refl _
  fzl := fun _ _ => rfl
  cells := fun b' => by
    rw [cellsOf_setR hb]
    by_cases hbb : b' = b
    · subst hbb; rw [if_pos rfl, cellsOf_at hb]; exact hf
    · rw [if_neg hbb]
  oth := fun b' o h1 h2 => by
    by_cases hbb : b' = b
    · subst hbb; rw [hb] at h1; cases h1; simp [isRec] at h2
    · exact (setR_same hbb).1.trans h1
theorem setR_wf {b : Nat} {c : Array Value} {el : TypeId} {fr : Nat × Nat} {cs : List Value} (hb : M.w.heap[b]? = some (.cells c el fr)) (hl : cs.length = c.size) (hw : ∀ b, M.fz b ≤ (cellsOf M.w b).length) : ∀ b', (M.setR b cs).fz b' ≤ (cellsOf (M.setR b cs).w b').length := fun b' => by
  rw [cellsOf_setR hb]
  by_cases hbb : b' = b
  · subst hbb; rw [if_pos rfl, hl]; have := hw b'; rw [cellsOf_at hb] at this; show M.fz b' ≤ _; simpa using this
  · rw [if_neg hbb]; exact hw b'
/-- Cells are written. -/
theorem run_storeCells {P : Program} {b x : Nat} {c : Array Value} {el : TypeId} {vs : List Value} (hb : M.w.heap[b]? = some (.cells c el (0, 0))) (hl : x + vs.length ≤ c.size) (h1 : ∀ v ∈ vs, v.oneCell' = true) : (storeCells ⟨b, x, none⟩ vs).run P M.w = .ok () (M.setR b (ov c.toList x vs)).w := by
  have := run_storeCells_at (P := P) b x el vs 0 c M.w hb (by simpa using hl) h1
  simpa [Mem.setR, ov] using this
end
section
variable {P : Program} {G : Nat → Option AV} {I : Inj} {M : Mem} {e : Env} {h h' : Heap} {a : Act} {k : Nat} {v : AV} {o : Oper}
theorem putD_one {d : D} {i : Nat} (h : nAg d = true) (vs : List D) : putD d i vs = (match vs with | [v] => v | _ => d) := by cases d <;> first | rfl | (simp [nAg] at h)
theorem sim_store (hG : GOk G M) (hE : ER I M e a.tmps) (hH : RH I M h) {t : TypeId} {x y : Operand} {cx cy : Opd} {n : Nat} (ho : o.op = .store t x y) (hn : szOf P t = some n) (hx : opd G x = some cx) (hy : opd G y = some cy) (hev : evOp (.store n cx cy) e h k = some (v, h')) : Sims P I M k o a v h' := by
  have rx := opd_rel hG hE hx
  have ry := opd_rel hG hE hy
  obtain ⟨i, hi, rfl⟩ : ∃ i, P.info? t = some i ∧ i.size = n := by simpa [szOf] using hn
  simp only [evOp] at hev
  cases hs : storeA i.size (cx.ev e) (cy.ev e) h with
  | none => simp [hs] at hev
  | some h1 =>
    simp only [hs, Option.some.injEq, Prod.mk.injEq] at hev
    obtain ⟨rfl, rfl⟩ := hev
    generalize cx.ev e = vx at hs rx
    generalize cy.ev e = vy at hs ry
    cases vx with
    | p n0 x0 =>
      obtain ⟨q, hq, e1⟩ := rx.ptr
      simp only [storeA] at hs
      have run : ∀ {c : Array Value} {el : TypeId}, M.w.heap[q.b]? = some (.cells c el (0, 0)) → (a.eval y).cells.toList.length = i.size → q.o + x0 + i.size ≤ c.size → (∀ v ∈ (a.eval y).cells.toList, v.oneCell' = true) → (execOp a.eval o).run P M.w = .ok .skip (M.setR q.b (ov c.toList (q.o + x0) (a.eval y).cells.toList)).w := by
        intro c el h1 h2 h3 h4
        have h2' : (a.eval y).cells.size = i.size := by simpa using h2
        simp only [execOp, ho, Instr.storeAt, e1, Instr.sureAddr, storeVar, Sem.run_bind, Sem.run_pure, Result.andThen_ok, run_sizeOf hi, h2', ne_eq, not_true_eq_false, if_false, run_storeCells h1 (by rw [h2]; exact h3) h4]
      split at hs
      · rename_i cs hob
        obtain ⟨g1, g2, g3⟩ := hH.ob n0 _ q hob hq
        simp only [RO] at g3
        obtain ⟨c, el, f1, f2, f3, f4⟩ := g3
        split at hs
        · rename_i vs hvs
          cases hb : vs.length == i.size && Nat.ble (x0 + i.size) cs.length with
          | false => simp [hb] at hs
          | true =>
            simp only [hb, cond_true, Option.some.injEq] at hs
            subst hs
            simp only [Bool.and_eq_true, beq_iff_eq] at hb
            have hb2 := ble_le hb.2
            have rvs := (ry.one (by intro l hl; rw [hl] at hvs; simp [cellsV] at hvs)).cells hvs
            have hlen := rvs.len
            have hc := f3.len
            simp only [Array.length_toList] at hc
            have hx' := setR_ext (cs := ov c.toList (q.o + x0) (a.eval y).cells.toList) f1 g1 (by rw [f4]; simp)
            refine ⟨undef, _, I, .inr ⟨run f1 (by rw [hlen]; exact hb.1) (by omega) rvs.oc, rfl⟩, hx', Le.refl I, fun x hx => .inl hx, ?_, RV.undef⟩
            refine hH.mod hob hq hx' (fun b hb => setR_same hb) (setR_wf f1 ?_ hH.wf) ?_
            · rw [ov_len]; simp; rw [hlen, hb.1]; simp; omega
            · simp only [RO]
              refine ⟨_, el, setR_at f1, f2, ?_, f4⟩
              rw [putCells_eq _ _ _ (by rw [hb.1]; exact hb2)]
              have e9 : ov c.toList (q.o + x0) (a.eval y).cells.toList = ov c.toList x0 (a.eval y).cells.toList := by rw [f2, Nat.zero_add]
              exact (congrArg (fun z => RVs I (M.setR q.b (ov c.toList (q.o + x0) (a.eval y).cells.toList)) (ov cs x0 vs) z) e9).mpr ((f3.ov (i := x0) rvs).ext hx' (Le.refl I))
        · cases hs
      · rename_i s l hob
        obtain ⟨g1, g2, g3⟩ := hH.ob n0 _ q hob hq
        simp only [RO] at g3
        obtain ⟨f0, fs, c, el, f1, f2, f3, f4, f5⟩ := g3
        split at hs
        · rename_i vs hvs
          split at hs
          · rename_i ds hds
            split at hs
            · rename_i d hd
              cases hb : ds.length == i.size && Nat.ble (x0 % s + i.size) s with
              | false => simp [hb] at hs
              | true =>
                simp only [hb, cond_true, Option.some.injEq] at hs
                subst hs
                simp only [Bool.and_eq_true, beq_iff_eq] at hb
                have hb2 := ble_le hb.2
                have rvs := (ry.one (by intro l hl; rw [hl] at hvs; simp [cellsV] at hvs)).cells hvs
                have rds := allD_rel hds rvs
                have hlen := rds.len
                subst f0
                obtain ⟨k1, k2⟩ := f4.get hd
                have hjl := (List.getElem?_eq_some_iff.1 hd).1
                rw [List.length_drop] at k1
                simp only [Array.length_toList] at k1
                have hdm : x0 / q.s * q.s + x0 % q.s = x0 := by have := Nat.div_add_mod x0 q.s; rw [Nat.mul_comm] at this; exact this
                have hx' := setR_ext (cs := ov c.toList (q.o + x0) (a.eval y).cells.toList) f1 g1 (by rw [ov_take (by simp at f5; omega) (by simp; omega)])
                refine ⟨undef, _, I, .inr ⟨run f1 (by rw [hlen]; exact hb.1) (by omega) rvs.oc, rfl⟩, hx', Le.refl I, fun x hx => .inl hx, ?_, RV.undef⟩
                refine hH.mod hob hq hx' (fun b hb => setR_same hb) (setR_wf f1 ?_ hH.wf) ?_
                · rw [ov_len]; simp; rw [hlen, hb.1]; simp; omega
                · simp only [RO]
                  refine ⟨trivial, fs, _, el, setR_at f1, ?_, by simpa using f3, ?_, by show M.fz q.b ≤ _; simpa using f5⟩
                  · simp only [List.size_toArray]; rw [ov_len (by rw [hlen, hb.1]; simp; omega)]; simpa using f2
                  · rw [ov_drop (by omega) (by simp; omega), Nat.add_sub_cancel_left]
                    have e2 := ov_ov (cs := c.toList.drop q.o) (o := x0 / q.s * q.s) (r := x0 % q.s) (s := q.s) (vs := (a.eval y).cells.toList) (by rw [hlen, hb.1]; exact hb2) (by simp; omega)
                    rw [hdm] at e2
                    rw [e2]
                    refine RRow.ext hx'.e0 _ _ _ _ rfl (f4.set hjl ?_ (by rw [ov_len]; simp; omega; rw [hlen, hb.1]; simp; omega))
                    cases hdd : nAg d with
                    | false =>
                      cases d with
                      | ag ld =>
                        simp only [RDc] at k2
                        simp only [putD, RDc]
                        exact RDs.ov (i := x0 % q.s) k2 rds
                      | _ => simp [nAg] at hdd
                    | true =>
                      have hs1 := k2.len
                      have hc1 : (cellsD d).length = 1 := by cases d <;> first | rfl | (simp [nAg] at hdd)
                      rw [hc1] at hs1
                      have hs1' : q.s = 1 := by rw [List.length_take, List.length_drop] at hs1; simp at hs1; omega
                      have hm0 : x0 % q.s = 0 := by rw [hs1']; omega
                      rw [hm0]
                      rw [putD_one hdd]
                      cases ds with
                      | nil =>
                        simp only [RDs] at rds
                        rw [rds, ov_nil]; exact k2
                      | cons d1 ds =>
                        cases ds with
                        | nil =>
                          simp only [RDs] at rds
                          obtain ⟨v1, r1, e3, n1, rr, rfl⟩ := rds
                          rw [e3]
                          have : ov (List.take q.s (List.drop (x0 / q.s * q.s) (List.drop q.o c.toList))) 0 [v1] = [v1] := by
                            unfold ov
                            rw [List.take_zero, List.nil_append, List.drop_of_length_le (by rw [hs1]; simp), List.append_nil]
                          rw [this]; exact rr
                        | cons d2 ds =>
                          simp only [List.length_cons] at hb
                          omega
            · cases hs
          · cases hs
        · cases hs
      · cases hs
    | _ => simp [storeA] at hs
end
end Tm
/- append, copy, clear, new rows. No statement of the seat is proved here. -/
namespace Tm
open Go
set_option linter.unusedVariables false
set_option linter.unusedSimpArgs false
section
variable {P : Program} {G : Nat → Option AV} {I : Inj} {M : Mem} {e : Env} {h h' : Heap} {a : Act} {k : Nat} {v : AV} {o : Oper}
/-- The value u lists the elements ys, s cells each; flat: their cells. -/
structure Src (P : Program) (M : Mem) (s : Nat) (ys : List D) (u : Value) (flat : List Value) : Prop where
  len : (Builtin.lenOf u).run P M.w = .ok ys.length M.w
  n : flat.length = ys.length * s
  row : RRow M.w M.fz s ys flat
  oc : ∀ v ∈ flat, v.oneCell' = true
  first : ∀ m (W : World), m ≤ ys.length → W.heap = M.w.heap → (Builtin.firstCells s m u).run P W = .ok (flat.take (m * s)).toArray W
theorem src_slice {s : Nat} {ys : List D} {A : Option Addr} {c : Nat} (hr : ys ≠ [] → ∃ b o, A = some ⟨b, o, none⟩ ∧ RRow M.w M.fz s ys ((cellsOf M.w b).drop o)) : ∃ flat, Src P M s ys (.slice A ys.length c) flat := by
  by_cases hne : ys = []
  · subst hne
    refine ⟨[], ⟨rfl, by simp, by simp [RRow], by simp, fun m W hm hW => ?_⟩⟩
    have : m = 0 := by simpa using hm
    subst this
    cases A with
    | none => simp [Builtin.firstCells]
    | some A => simp only [Builtin.firstCells, Nat.zero_mul]; rfl
  · obtain ⟨b, x, rfl, hrow⟩ := hr hne
    have hl := hrow.len
    refine ⟨((cellsOf M.w b).drop x).take (ys.length * s), ⟨rfl, by simp at hl ⊢; omega, hrow.head, hrow.oc, fun m W hm hW => ?_⟩⟩
    have hms : m * s ≤ ys.length * s := Nat.mul_le_mul_right s hm
    have hlen : ((((cellsOf M.w b).drop x).take (ys.length * s)).take (m * s)).length = m * s := by simp at hl ⊢; omega
    have := run_loadCells_list (P := P) W ⟨b, x, none⟩ ((((cellsOf M.w b).drop x).take (ys.length * s)).take (m * s)) (fun j u hu => by
      rw [add_none, cell_eq, show cellsOf W b = cellsOf M.w b by unfold cellsOf; rw [hW]]
      rw [List.take_take, Nat.min_eq_left hms, List.getElem?_take] at hu
      split at hu
      · rwa [List.getElem?_drop] at hu
      · cases hu)
    rw [hlen] at this
    simp only [Builtin.firstCells, this]
theorem src_str {s : ByteArray} : Src P M 1 (bytesD s) (.string s) (s.data.toList.map fun b => .int .u8 b.toNat) := by
  have hlen : (bytesD s).length = s.size := by simp [bytesD]
  refine ⟨by rw [hlen]; rfl, by simp [bytesD], ?_, ?_, fun m W hm hW => ?_⟩
  · unfold bytesD
    induction s.data.toList with
    | nil => simp [RRow]
    | cons b l ih =>
      simp only [List.map_cons, RRow]
      exact ⟨by simp, by simp [RDc], by simpa using ih⟩
  · intro v hv
    obtain ⟨b, _, rfl⟩ := List.mem_map.1 hv
    rfl
  · simp only [Builtin.firstCells, Sem.run_pure]
    congr 1
    apply Array.toList_inj.1
    rw [hlen] at hm
    have : (s.extract 0 m).data.toList = s.data.toList.take m := by
      rw [ByteArray.data_extract]
      simp [Array.toList_extract, List.extract_eq_take_drop]
    simp [this, List.map_take]
theorem sub_spec {l r : List D} {lo n : Nat} (h : sub l lo n = some r) : lo + n ≤ l.length ∧ r = (l.drop lo).take n ∧ r.length = n := by
  unfold sub at h
  cases hb : Nat.ble (lo + n) l.length with
  | false => simp [hb] at h
  | true =>
    simp only [hb, cond_true, Option.some.injEq] at h
    have := ble_le hb
    exact ⟨this, h.symm, by rw [← h]; simp; omega⟩
theorem elems_src {x : AV} {ys : List D} {s : Nat} {u : Value} (hH : RH I M h) (rx : RV I M x u) (he : elems x h = some ys) (hs : headSz ys s = true) : ∃ flat, Src P M s ys u flat := by
  have go : ∀ {A : Option Addr} {c : Nat}, u = .slice A ys.length c → (ys ≠ [] → ∃ b o s', A = some ⟨b, o, none⟩ ∧ RRow M.w M.fz s' ys ((cellsOf M.w b).drop o)) → ∃ flat, Src P M s ys u flat := by
    intro A c hu hr
    subst hu
    exact src_slice fun hne => by
      obtain ⟨b, o, s', h1, h2⟩ := hr hne
      rw [headSz_eq hs hne h2] at h2
      exact ⟨b, o, h1, h2⟩
  unfold elems at he
  split at he
  · simp only [Option.some.injEq] at he
    subst he
    have := rx.dcell rfl
    simp only [RDc] at this
    obtain ⟨A, c, e1⟩ := this
    simp only [List.cons.injEq, and_true] at e1
    exact go e1 (fun h => absurd rfl h)
  · simp only [Option.some.injEq] at he
    subst he
    obtain ⟨A, c, e1, _, _, hr⟩ := rx.slD
    exact go e1 fun hne => let ⟨b, o, s, h1, _, _, h4⟩ := hr hne; ⟨b, o, s, h1, h4⟩
  · simp only [Option.some.injEq] at he
    subst he
    obtain ⟨A, e1, hr⟩ := rx.zlD
    exact go e1 fun hne => let ⟨b, o, s, h1, _, _, h4⟩ := hr hne; ⟨b, o, s, h1, h4⟩
  · simp only [Option.some.injEq] at he
    subst he
    obtain ⟨A, c, e1, _, hr⟩ := rx.bsD
    exact go e1 fun hne => let ⟨b, o, s, h1, _, _, h4⟩ := hr hne; ⟨b, o, s, h1, h4⟩
  · rename_i n lo m
    obtain ⟨q, A, hq, e1, hle, hA⟩ := rx.slR
    split at he
    · rename_i s0 l z hob
      obtain ⟨g1, g2, g3⟩ := sub_spec he
      have hro := (hH.ob n _ q hob hq).2.2
      simp only [RO] at hro
      obtain ⟨f0, fs, c, el, f1, f2, f3, f4, f5⟩ := hro
      rw [← g3] at e1
      refine go e1 fun hne => ?_
      have hpos : 0 < ys.length := List.length_pos_iff.2 hne
      rcases hA with hA | hA
      · omega
      · refine ⟨q.b, _, q.s, hA, ?_⟩
        rw [cellsOf_at f1, g2]
        have := (f4.drop lo).take m
        rwa [List.drop_drop] at this
    · cases he
  · cases he
theorem growBy_le : ∀ (n r c : Nat), Builtin.growBy n r c ≤ max c (n + (n + 768) / 4)
  | n, 0, c => by simp [Builtin.growBy]; omega
  | n, r + 1, c => by
    unfold Builtin.growBy
    split
    · omega
    · have := growBy_le n r (c + (c + 768) / 4)
      omega
theorem cap_le {n c : Nat} (h : c < n) : Builtin.nextslicecap n c ≤ 2 * n + 192 := by
  unfold Builtin.nextslicecap
  split
  · omega
  · split
    · omega
    · have := growBy_le n 4 c; omega
/-- n times the same cells. -/
def repC (zs : List Value) : Nat → List Value
  | 0 => []
  | n + 1 => zs ++ repC zs n
theorem repC_len (zs : List Value) (n : Nat) : (repC zs n).length = n * zs.length := by
  induction n with
  | zero => simp [repC]
  | succ n ih => simp [repC, ih, Nat.add_mul]; omega
theorem repC_get {zs : List Value} (hz : 0 < zs.length) : ∀ (n j : Nat), j < n * zs.length → (repC zs n)[j]? = zs[j % zs.length]?
  | 0, j, h => by simp at h
  | n + 1, j, h => by
    simp only [repC]
    by_cases hj : j < zs.length
    · rw [List.getElem?_append_left hj, Nat.mod_eq_of_lt hj]
    · rw [List.getElem?_append_right (by omega), repC_get hz n (j - zs.length) (by rw [Nat.add_mul] at h; omega), ← Nat.mod_eq_sub_mod (by omega)]
theorem repC_eq {zs : Array Value} (hz : 0 < zs.size) (n : Nat) : ((Array.range (n * zs.size)).map fun i => zs[i % zs.size]!).toList = repC zs.toList n := by
  apply List.ext_getElem?
  intro j
  by_cases hj : j < n * zs.size
  · rw [repC_get (by simpa using hz) n j (by simpa using hj)]
    have hm : j % zs.size < zs.size := Nat.mod_lt _ hz
    simp [hj, Array.getElem!_eq_getD, Array.getD, hm]
  · rw [List.getElem?_eq_none (by simp; omega), List.getElem?_eq_none (by rw [repC_len]; simp; omega)]
theorem repC_row {w : World} {fz : Nat → Nat} {zs : List Value} {d : D} (hd : RDc w fz d zs) : ∀ n, RRow w fz zs.length (List.replicate n d) (repC zs n)
  | 0 => by simp [RRow]
  | n + 1 => by
    simp only [List.replicate_succ, RRow, repC]
    refine ⟨by simp, by rw [List.take_append_of_le_length (Nat.le_refl _), List.take_length]; exact hd, ?_⟩
    rw [List.drop_append_of_le_length (Nat.le_refl _), List.drop_length, List.nil_append]
    exact repC_row hd n
/-- Zero cells of an element. -/
theorem zeroD_row {t : TypeId} {zs : List D} (hz : zeroD P t = some zs) : ∃ i z, P.info? t = some i ∧ i.zero = some z ∧ i.size = zs.length ∧ 0 < i.size ∧ i.bytes ≤ 4096 ∧ z.cells.size = zs.length ∧ ∀ (w : World) (fz : Nat → Nat), RDs w fz zs z.cells.toList := by
  obtain ⟨i, z, l, h1, h2, h3, h4, h5, h6, h7⟩ := zeroD_spec hz
  obtain ⟨i', z', g1, g2, g3⟩ := zeroC_spec h6
  rw [h1] at g1
  cases g1
  rw [h2] at g2
  cases g2
  have hr : ∀ (w : World) (fz : Nat → Nat), RDs w fz zs z.cells.toList := fun w fz => allD_rel (M := ⟨w, fz, 0⟩) h7 (g3 (fun _ => none) ⟨w, fz, 0⟩)
  refine ⟨i, z, h1, h2, h3, h4, h5, ?_, hr⟩
  have := (hr { heap := #[], tape := fun _ _ => 0, drawn := 0, os := default, output := #[] } (fun _ => 0)).len
  simpa using this
theorem oneD_rel {w : World} {fz : Nat → Nat} {zs : List D} {cs : List Value} (hr : RDs w fz zs cs) (h0 : 0 < zs.length) : RDc w fz (oneD zs) cs := by
  cases zs with
  | nil => simp at h0
  | cons x l =>
    cases l with
    | nil =>
      simp only [RDs] at hr
      obtain ⟨v, r, rfl, hn, hx, rfl⟩ := hr
      exact hx
    | cons y l => exact hr
def Mem.drew (M : Mem) : Mem := ⟨{ M.w with drawn := M.w.drawn + 1 }, M.fz, M.lo⟩
theorem drew_ext : Ext M M.drew := ⟨rfl, rfl, rfl, rfl, Nat.le_refl _, fun _ _ => rfl, fun _ => Nat.le_refl _, fun _ _ => rfl, fun _ => rfl, fun _ _ h _ => h⟩
theorem RH.drew (hH : RH I M h) : RH I M.drew h := hH.keep drew_ext (fun _ _ _ _ _ => ⟨rfl, rfl⟩) hH.wf
section
variable {t t' el : TypeId} {d' : TypeDesc} {i : TypeInfo} {z : Value} {s : Nat} {ys : List D} {u : Value} {flat : List Value} {A : Option Addr} {n c : Nat}
/-- append in the room there is. -/
theorem run_app_fits (ty : TypeId) {ts : Array TypeId} (h1 : ts[0]? = some t) (h2 : ts[1]? = some t') (ht : P.underlying t = some (.slice el)) (ht' : P.underlying t' = some d') (hd' : ∀ kd, d' ≠ .int kd) (hi : P.info? el = some i) (hs : i.size = s)
    (hsrc : Src P M s ys u flat) (hc : n + ys.length ≤ c) : (Builtin.append_ ts ty #[.slice A n c, u]).run P M.w = ((match A with
      | some A => storeCells (A.add (n * s)) flat
      | none => pure () : Sem Unit).run P M.w).andThen fun _ w => .ok (.slice A (n + ys.length) c) w := by
  have hz : (d' matches .int _) = false := by cases d' <;> first | rfl | exact absurd rfl (hd' _)
  have hf := hsrc.first ys.length M.w (Nat.le_refl _) rfl
  rw [show ys.length * s = flat.length from hsrc.n.symm, List.take_length] at hf
  have happ : (if (!false) = true then Builtin.firstCells i.size ys.length u else if ys.length * i.size = 0 then pure #[] else do pure (Builtin.zeroCells (← zeroValue el).cells ys.length) : Sem (Array Value)).run P M.w = .ok flat.toArray M.w := by
    rw [hs]; exact hf
  unfold Builtin.append_
  simp only [h1, h2, List.getElem?_toArray, List.getElem?_cons_zero, List.getElem?_cons_succ, Sem.run_bind, run_underlying ht, Result.andThen_ok, run_sizeOf hi, run_underlying ht', Sem.run_pure, hz, Bool.false_eq_true, if_false, hsrc.len, if_pos hc, Bool.not_false, if_true, hs, hf]
  cases A with
  | none => rfl
  | some A => simp only [Sem.run_bind, List.toList_toArray]; rfl
theorem run_app_grow (ty : TypeId) {ts : Array TypeId} (h1 : ts[0]? = some t) (h2 : ts[1]? = some t') (ht : P.underlying t = some (.slice el)) (ht' : P.underlying t' = some d') (hd' : ∀ kd, d' ≠ .int kd) (hi : P.info? el = some i) (hs : i.size = s) (hb : i.bytes ≤ 4096) (hz : i.zero = some z) (hzs : z.cells.size = s) (h0 : 0 < s)
    (hsrc : Src P M s ys u flat) (hc : ¬ n + ys.length ≤ c) (hn : n + ys.length < 4294967296) {xs : List D} {fx : List Value} (hx : xs.length = n) (hsx : Src P M s xs (.slice A n c) fx) : ∃ nc, (n + ys.length ≤ nc ∧ nc ≤ 9223372036854775807) ∧ (Builtin.append_ ts ty #[.slice A n c, u]).run P M.w = .ok (.slice (some ⟨M.w.heap.size, 0, none⟩) (n + ys.length) nc) (M.drew.push (.cells (fx ++ flat ++ repC z.cells.toList (nc - (n + ys.length))).toArray el) 0).w := by
  have hzf : (d' matches .int _) = false := by cases d' <;> first | rfl | exact absurd rfl (hd' _)
  have hf : ∀ W : World, W.heap = M.w.heap → (Builtin.firstCells s ys.length u).run P W = .ok flat.toArray W := fun W hW => by
    have := hsrc.first ys.length W (Nat.le_refl _) hW
    rwa [show ys.length * s = flat.length from hsrc.n.symm, List.take_length] at this
  have hfx : ∀ W : World, W.heap = M.w.heap → (Builtin.firstCells s n (.slice A n c)).run P W = .ok fx.toArray W := fun W hW => by
    have := hsx.first n W (by omega) hW
    rwa [show n * s = fx.length by rw [hsx.n, hx], List.take_length] at this
  have g1 : ¬(((n + ys.length : Nat) : Int) > IntKind.i64.max ∧ ((false = true) ∨ i.bytes = 0)) := by
    intro hh
    have := hh.1
    simp only [IntKind.max, IntKind.signed, IntKind.bits, if_true] at this
    omega
  have g2 : ¬(Builtin.nextslicecap (n + ys.length) c * i.bytes > 2 ^ 48) := by
    have := cap_le (n := n + ys.length) (c := c) (by omega)
    have h3 : Builtin.nextslicecap (n + ys.length) c * i.bytes ≤ (2 * 4294967296 + 192) * 4096 := Nat.mul_le_mul (by omega) hb
    omega
  let nc := Question.cut (.appendCap (n + ys.length) c el) (M.w.tape M.w.drawn (.appendCap (n + ys.length) c el))
  refine ⟨nc, ⟨by simp only [nc, Question.cut]; omega, by
    have hlt := Nat.mod_lt (M.w.tape M.w.drawn (.appendCap (n + ys.length) c el)) (show 0 < 2 ^ 63 - (n + ys.length) by omega)
    simp only [nc, Question.cut]; omega⟩, ?_⟩
  have hrest : (Builtin.zeroCells z.cells (nc - (n + ys.length))) = (repC z.cells.toList (nc - (n + ys.length))).toArray := by
    apply Array.toList_inj.1
    unfold Builtin.zeroCells
    rw [repC_eq (by omega)]
  unfold Builtin.append_
  simp only [h1, h2, List.getElem?_toArray, List.getElem?_cons_zero, List.getElem?_cons_succ, Sem.run_bind, run_underlying ht, Result.andThen_ok, run_sizeOf hi, run_underlying ht', Sem.run_pure, hzf, Bool.false_eq_true, if_false, hsrc.len, if_neg hc, Bool.not_false, if_true, hs, run_typeInfo hi]
  have g1' : ¬(((n + ys.length : Nat) : Int) > IntKind.i64.max ∧ (False ∨ i.bytes = 0)) := by simpa using g1
  rw [if_neg g1']
  simp only [Sem.run_bind, run_typeInfo hi, Result.andThen_ok, if_neg g2, run_choose, Question.forced, Bool.false_eq_true, if_false, run_askRoom, hfx { M.w with drawn := M.w.drawn + 1 } rfl, hf { M.w with drawn := M.w.drawn + 1 } rfl, run_zeroValue hi hz, newRow, run_newObj, Sem.run_pure]
  have e1 : fx.toArray ++ flat.toArray ++ Builtin.zeroCells z.cells (nc - (n + ys.length)) = (fx ++ flat ++ repC z.cells.toList (nc - (n + ys.length))).toArray := by
    rw [hrest]; simp
  show Result.ok (Value.slice (some ⟨M.w.heap.size, 0, none⟩) (n + ys.length) nc) _ = _
  rw [show (Question.cut (.appendCap (n + ys.length) c el) (M.w.tape M.w.drawn (.appendCap (n + ys.length) c el))) = nc from rfl, e1]
  rfl
end
end
end Tm
/- append, as the abstract machine sees it. No statement of the seat is proved here. -/
namespace Tm
open Go
set_option linter.unusedVariables false
set_option linter.unusedSimpArgs false
theorem RRow.takeC {w : World} {fz : Nat → Nat} {s : Nat} {l : List D} {cs : List Value} (r : RRow w fz s l cs) (i : Nat) (hi : i ≤ l.length) : RRow w fz s (l.take i) (cs.take (i * s)) ∧ (cs.take (i * s)).length = (l.take i).length * s := by
  have hl := r.len
  have hm : i * s ≤ l.length * s := Nat.mul_le_mul_right s hi
  refine ⟨(r.take i).congr ?_, ?_⟩
  · rw [List.length_take, Nat.min_eq_left hi, List.take_take, Nat.min_self]
  · rw [List.length_take, List.length_take, Nat.min_eq_left hi]; omega
theorem RRow.ov {w : World} {fz : Nat → Nat} {s : Nat} {l ys : List D} {cs flat : List Value} {i : Nat} (r : RRow w fz s l cs) (r' : RRow w fz s ys flat) (hf : flat.length = ys.length * s) (hi : i + ys.length ≤ l.length) : RRow w fz s (Tm.ov l i ys) (Tm.ov cs (i * s) flat) := by
  obtain ⟨r1, l1⟩ := r.takeC i (by omega)
  unfold Tm.ov
  refine RRow.app (r1.app l1 r') ?_ ?_
  · rw [List.length_append, List.length_append, l1, hf, Nat.add_mul]
  · have := r.drop (i + ys.length)
    rwa [Nat.add_mul, ← hf] at this
section
variable {P : Program} {I : Inj} {M : Mem} {h h' : Heap} {k : Nat} {v : AV}
variable {t t' el : TypeId} {d' : TypeDesc} {i : TypeInfo} {z : Value} {s : Nat} {ys : List D} {u : Value} {flat : List Value}
/-- A new row in a new block, behind a draw. -/
theorem grown_rel {hd : Heap} {xs : List D} {fx : List Value} {X : Value} {nc : Nat} {el : TypeId} (hH : RH I M hd) (hk : I k = none) (h0 : 0 < s) (hzs : z.cells.size = s) (hsrc : Src P M s ys u flat) (hsx : Src P M s xs X fx) (hnc : xs.length + ys.length ≤ nc ∧ nc ≤ 9223372036854775807) (fz : Bool) :
    let M' := M.drew.push (.cells (fx ++ flat ++ repC z.cells.toList (nc - (xs.length + ys.length))).toArray el) 0
    Ext M M' ∧ RH (I.set k ⟨M.w.heap.size, 0, nc, s⟩) M' (hd.set k (.row s (xs ++ ys) fz)) := by
  intro M'
  have hd' := hH.drew
  have hx : Ext M M' := drew_ext.trans (push_ext hd'.wf hd'.lo _ 0)
  obtain ⟨hnc, hncc⟩ := hnc
  refine ⟨hx, hd'.new (c := nc) (s := s) hk ?_ hncc⟩
  simp only [RO]
  have hlen : (fx ++ flat).length = (xs ++ ys).length * s := by rw [List.length_append, List.length_append, hsx.n, hsrc.n, Nat.add_mul]
  refine ⟨trivial, h0, _, el, push_at, ?_, by simpa using hnc, ?_, by simp [Mem.push]⟩
  · simp only [List.size_toArray, Nat.zero_add]
    have hr : (repC z.cells.toList (nc - (xs.length + ys.length))).length = (nc - (xs.length + ys.length)) * s := by rw [repC_len, show z.cells.toList.length = s by simpa using hzs]
    rw [List.length_append, hlen, hr, List.length_append, ← Nat.add_mul]
    exact Nat.mul_le_mul_right s (by omega)
  · simp only [List.drop_zero]
    refine RRow.ext hx.e0 _ _ _ _ ?_ (hsx.row.app hsx.n hsrc.row)
    rw [List.take_append_of_le_length (by rw [hlen]; exact Nat.le_refl _)]
theorem app_rel (ty : TypeId) {ts : Array TypeId} (h1 : ts[0]? = some t) (h2 : ts[1]? = some t') (ht : P.underlying t = some (.slice el)) (ht' : P.underlying t' = some d') (hd' : ∀ kd, d' ≠ .int kd) (hi : P.info? el = some i) (hs : i.size = s) (hb : i.bytes ≤ 4096) (hz : i.zero = some z) (hzs : z.cells.size = s) (h0 : 0 < s)
    (hH : RH I M h) (hk : I k = none) (hsrc : Src P M s ys u flat) {x : AV} {X : Value} (rx : RV I M x X) (he : appA s x ys h k = some (v, h')) :
    ∃ v' M' I', (Builtin.append_ ts ty #[X, u]).run P M.w = .ok v' M'.w ∧ Ext M M' ∧ Le I I' ∧ (∀ x, I' x ≠ none → I x ≠ none ∨ x = k) ∧ RH I' M' h' ∧ RV I' M' v v' := by
  have fits := fun {A n c} => run_app_fits (A := A) (n := n) (c := c) ty h1 h2 ht ht' hd' hi hs hsrc
  have none0 : ∀ {A : Option Addr} {n c : Nat}, ys = [] → X = .slice A n c → n ≤ c → (Builtin.append_ ts ty #[X, u]).run P M.w = .ok X M.w := by
    intro A n c hy hX hc
    have hn := hsrc.n
    subst hy
    have hf : flat = [] := by simpa using hn
    subst hf
    rw [hX, fits (by simpa using hc)]
    cases A <;> simp [storeCells]
  have calm : ∀ {A : Option Addr} {n c : Nat}, ys = [] → X = .slice A n c → n ≤ c → v = x ∧ h' = h → ∃ v' M' I', (Builtin.append_ ts ty #[X, u]).run P M.w = .ok v' M'.w ∧ Ext M M' ∧ Le I I' ∧ (∀ x, I' x ≠ none → I x ≠ none ∨ x = k) ∧ RH I' M' h' ∧ RV I' M' v v' := by
    intro A n c hy hX hc hv
    obtain ⟨rfl, rfl⟩ := hv
    exact ⟨X, M, I, none0 hy hX hc, Ext.refl M, Le.refl I, fun x hx => .inl hx, hH, rx⟩
  have newrow : ∀ {hd : Heap} {xs : List D} {fx : List Value} {A : Option Addr} {c : Nat} (z0 : Bool), RH I M hd → X = .slice A xs.length c → Src P M s xs X fx → ¬ xs.length + ys.length ≤ c → xs.length + ys.length < 4294967296 → v = .sl k 0 (xs.length + ys.length) → h' = hd.set k (.row s (xs ++ ys) z0) →
      ∃ v' M' I', (Builtin.append_ ts ty #[X, u]).run P M.w = .ok v' M'.w ∧ Ext M M' ∧ Le I I' ∧ (∀ x, I' x ≠ none → I x ≠ none ∨ x = k) ∧ RH I' M' h' ∧ RV I' M' v v' := by
    intro hd xs fx A c z0 hHd hX hsx hc hlt hv hh
    subst hX hv hh
    obtain ⟨nc, hnc, hrun⟩ := run_app_grow ty h1 h2 ht ht' hd' hi hs hb hz hzs h0 hsrc hc hlt rfl hsx
    obtain ⟨g1, g2⟩ := grown_rel (el := el) hHd hk h0 hzs hsrc hsx hnc z0
    refine ⟨_, _, _, hrun, g1, Inj.set_le _ hk, Inj.set_only, g2, RV.mk rfl ?_⟩
    simp only [RVc]
    exact ⟨_, _, Inj.set_same, rfl, by simpa using hnc.1, .inr (by simp)⟩
  unfold appA at he
  split at he
  · simp only [Option.some.injEq, Prod.mk.injEq] at he
    obtain ⟨A, c, e1, hc, _⟩ := rx.slD
    exact calm rfl e1 hc ⟨he.1.symm, he.2.symm⟩
  · simp only [Option.some.injEq, Prod.mk.injEq] at he
    have := rx.dcell rfl
    simp only [RDc] at this
    obtain ⟨A, c, e1⟩ := this
    simp only [List.cons.injEq, and_true] at e1
    exact calm rfl e1 (Nat.zero_le _) ⟨he.1.symm, he.2.symm⟩
  · simp only [Option.some.injEq, Prod.mk.injEq] at he
    obtain ⟨A, c, e1, hc, _⟩ := rx.bsD
    exact calm rfl e1 hc ⟨he.1.symm, he.2.symm⟩
  · simp only [Option.some.injEq, Prod.mk.injEq] at he
    obtain ⟨A, e1, _⟩ := rx.zlD
    exact calm rfl e1 (Nat.le_refl _) ⟨he.1.symm, he.2.symm⟩
  · simp only [Option.some.injEq, Prod.mk.injEq] at he
    obtain ⟨q, A, hq, e1, hle, _⟩ := rx.slR
    exact calm rfl e1 (by omega) ⟨he.1.symm, he.2.symm⟩
  · rename_i hny
    cases hb' : Nat.blt ys.length 4294967296 && headSz ys s with
    | false => simp [hb'] at he
    | true =>
      simp only [hb', cond_true, Option.some.injEq, Prod.mk.injEq] at he
      simp only [Bool.and_eq_true] at hb'
      have hlt := blt_lt hb'.1
      obtain ⟨A, c, e1, hc, h00, _⟩ := rx.slD
      have hc0 := h00 rfl
      subst hc0
      obtain ⟨fx, hsx⟩ := src_slice (P := P) (M := M) (s := s) (ys := []) (A := A) (c := 0) (fun h => absurd rfl h)
      refine newrow (hd := h) (xs := []) (A := A) (c := 0) false hH e1 (by rw [e1]; exact hsx) ?_ (by simpa using hlt) ?_ ?_
      · have : ys ≠ [] := by rintro rfl; exact hny rfl
        have := List.length_pos_iff.2 this
        simp; omega
      · rw [← he.1]; simp
      · rw [← he.2]; simp
  · rename_i l hny
    cases hb' : Nat.blt (l.length + ys.length) 4294967296 && headSz l s with
    | false => simp [hb'] at he
    | true =>
      simp only [hb', cond_true, Option.some.injEq, Prod.mk.injEq] at he
      simp only [Bool.and_eq_true] at hb'
      have hlt := blt_lt hb'.1
      obtain ⟨A, e1, hr⟩ := rx.zlD
      obtain ⟨fx, hsx⟩ := src_slice (P := P) (M := M) (s := s) (ys := l) (A := A) (c := l.length) (fun hne => by
        obtain ⟨b, o, s', g1, g2, g3, g4⟩ := hr hne
        rw [headSz_eq hb'.2 hne g4] at g4
        exact ⟨b, o, g1, g4⟩)
      refine newrow (hd := h) (xs := l) (A := A) (c := l.length) false hH e1 (by rw [e1]; exact hsx) ?_ hlt he.1.symm he.2.symm
      have : ys ≠ [] := by rintro rfl; exact hny rfl
      have := List.length_pos_iff.2 this
      omega
  · rename_i n lo m hny
    have hyp : 0 < ys.length := List.length_pos_iff.2 (by rintro rfl; exact hny rfl)
    obtain ⟨q, A, hq, e1, hle, hA⟩ := rx.slR
    split at he
    · rename_i s0 l z0 hob
      obtain ⟨o1, o2, hro⟩ := hH.ob n _ q hob hq
      simp only [RO] at hro
      obtain ⟨f0, fs, c, el', f1, f2, f3, f4, f5⟩ := hro
      cases hb' : s0 == s && Nat.blt (l.length + ys.length) 4294967296 with
      | false => simp [hb'] at he
      | true =>
        simp only [hb', cond_true] at he
        simp only [Bool.and_eq_true, beq_iff_eq] at hb'
        have hlt := blt_lt hb'.2
        have hss : q.s = s := by rw [← f0]; exact hb'.1
        rw [hss] at f2 f4 hA f5
        cases hend : lo + m == l.length with
        | true =>
          simp only [hend, cond_true, Option.some.injEq, Prod.mk.injEq] at he
          have hend' : lo + m = l.length := by simpa using hend
          have hm : (l.drop lo).length = m := by simp; omega
          by_cases hfit : m + ys.length ≤ q.c - lo
          · -- in the room there is
            have hA' : A = some ⟨q.b, q.o + lo * s, none⟩ := by rcases hA with hA | hA; omega; exact hA
            subst hA'
            have hpos : q.o + lo * s + m * s = q.o + l.length * s := by rw [Nat.add_assoc, ← Nat.add_mul, hend']
            have hroom : q.o + lo * s + m * s + flat.length ≤ c.size := by
              rw [hsrc.n]
              have : (lo + m + ys.length) * s ≤ q.c * s := Nat.mul_le_mul_right s (by omega)
              simp only [Nat.add_mul] at this
              omega
            have hst := run_storeCells (P := P) (x := q.o + lo * s + m * s) f1 hroom hsrc.oc
            have hfzle : M.fz q.b ≤ q.o + l.length * s := by cases z0 <;> simp at f5 <;> omega
            have hsz : q.o + l.length * s ≤ c.size := by omega
            have hx := setR_ext (cs := Tm.ov c.toList (q.o + lo * s + m * s) flat) f1 o1 (by rw [ov_take (by omega) (by simp; omega)])
            refine ⟨.slice (some ⟨q.b, q.o + lo * s, none⟩) (m + ys.length) (q.c - lo), M.setR q.b (Tm.ov c.toList (q.o + lo * s + m * s) flat), I.set k ⟨q.b, q.o + lo * s, q.c - lo, s⟩, ?_, hx, Inj.set_le _ hk, Inj.set_only, ?_, ?_⟩
            · rw [e1, fits hfit]
              simp only [add_none, hst, Result.andThen_ok]
            · rw [← he.2]
              refine (hH.del (a := n)).add hx hk (fun a ob p ha hp => setR_same ?_) (setR_wf f1 (by rw [ov_len (by simpa using hroom)]; simp) hH.wf) (by rw [hx.lo]; exact o1) (Nat.lt_of_lt_of_le o2 hx.size) ?_ ?_ (by have := hH.cp n _ q hob hq; show q.c - lo ≤ _; omega)
              · rw [T.get_del] at ha
                by_cases han : a = n
                · rw [if_pos han] at ha; cases ha
                · rw [if_neg han] at ha; exact hH.inj a n ob _ p q ha hob hp hq han
              · simp only [RO]
                refine ⟨trivial, h0, _, el', setR_at f1, ?_, ?_, ?_, ?_⟩
                · simp only [List.size_toArray]; rw [ov_len (by simpa using hroom)]
                  simp only [Array.length_toList]
                  have : lo * s + (q.c - lo) * s = q.c * s := by rw [← Nat.add_mul]; congr 1; omega
                  omega
                · rw [List.length_append, hm]; exact hfit
                · have hl1 : ((c.toList.drop (q.o + lo * s)).take (m * s)).length = (l.drop lo).length * s := by
                    rw [hm, List.length_take, List.length_drop, Array.length_toList]; omega
                  have r1 : RRow M.w M.fz s (l.drop lo) (c.toList.drop (q.o + lo * s)) := by
                    have := f4.drop lo
                    rwa [List.drop_drop] at this
                  have r2 : RRow M.w M.fz s (l.drop lo ++ ys) ((c.toList.drop (q.o + lo * s)).take (m * s) ++ flat) := RRow.app (by have := r1.head; rwa [hm] at this) hl1 hsrc.row
                  refine RRow.ext hx.e0 _ _ _ _ ?_ r2
                  rw [ov_drop (by omega) (by simp; omega), Nat.add_sub_cancel_left]
                  unfold Tm.ov
                  have e3 : ((c.toList.drop (q.o + lo * s)).take (m * s) ++ flat).length = (l.drop lo ++ ys).length * s := by rw [List.length_append, List.length_append, hl1, hsrc.n, Nat.add_mul]
                  rw [List.take_append_of_le_length (by rw [e3]; exact Nat.le_refl _)]
                · show M.fz q.b ≤ _
                  rw [List.length_append, hm, Nat.add_mul]
                  cases z0 <;> simp at f5 ⊢ <;> omega
              · intro a ob p ha hp
                rw [T.get_del] at ha
                by_cases han : a = n
                · rw [if_pos han] at ha; cases ha
                · rw [if_neg han] at ha; exact hH.inj a n ob _ p q ha hob hp hq han
            · rw [← he.1]
              refine RV.mk rfl ?_
              simp only [RVc]
              exact ⟨_, some ⟨q.b, q.o + lo * s, none⟩, Inj.set_same, by simp, by simpa using hfit, .inr (by simp)⟩
          · obtain ⟨fx, hsx⟩ := src_slice (P := P) (M := M) (s := s) (ys := l.drop lo) (A := A) (c := q.c - lo) (fun hne => by
              have hpos := List.length_pos_iff.2 hne
              rcases hA with hA | hA
              · omega
              · refine ⟨q.b, _, hA, ?_⟩
                rw [cellsOf_at f1]
                have := f4.drop lo
                rwa [List.drop_drop] at this)
            rw [hm] at hsx
            refine newrow (hd := h.del n) (xs := l.drop lo) (A := A) (c := q.c - lo) z0 hH.del (by rw [e1, hm]) (by rw [e1]; exact hsx) (by rw [hm]; exact hfit) (by rw [hm]; omega) (by rw [hm]; exact he.1.symm) ?_
            rw [← he.2]
        | false =>
          simp only [hend, cond_false] at he
          cases hin : Nat.ble (lo + m + ys.length) l.length && !z0 with
          | false => simp [hin] at he
          | true =>
            simp only [hin, cond_true, Option.some.injEq, Prod.mk.injEq] at he
            simp only [Bool.and_eq_true, Bool.not_eq_true'] at hin
            have hin1 := ble_le hin.1
            have hz0 := hin.2
            subst hz0
            have hfit : m + ys.length ≤ q.c - lo := by omega
            have hA' : A = some ⟨q.b, q.o + lo * s, none⟩ := by rcases hA with hA | hA; omega; exact hA
            subst hA'
            have hpos : q.o + lo * s + m * s = q.o + (lo + m) * s := by rw [Nat.add_assoc, ← Nat.add_mul]
            have hroom : q.o + (lo + m) * s + flat.length ≤ c.size := by
              rw [hsrc.n]
              have : (lo + m + ys.length) * s ≤ q.c * s := Nat.mul_le_mul_right s (by omega)
              rw [Nat.add_mul (lo + m)] at this
              omega
            have hst := run_storeCells (P := P) (x := q.o + (lo + m) * s) f1 hroom hsrc.oc
            have hf5 : M.fz q.b ≤ q.o := by simpa using f5
            have hx := setR_ext (cs := Tm.ov c.toList (q.o + (lo + m) * s) flat) f1 o1 (by rw [ov_take (by omega) (by simp; omega)])
            refine ⟨.slice (some ⟨q.b, q.o + lo * s, none⟩) (m + ys.length) (q.c - lo), M.setR q.b (Tm.ov c.toList (q.o + (lo + m) * s) flat), I, ?_, hx, Le.refl I, fun x hx => .inl hx, ?_, ?_⟩
            · rw [e1, fits hfit]
              simp only [add_none, hpos, hst, Result.andThen_ok]
            · rw [← he.2]
              refine hH.mod hob hq hx (fun b hb => setR_same hb) (setR_wf f1 (by rw [ov_len (by simpa using hroom)]; simp) hH.wf) ?_
              simp only [RO]
              refine ⟨by rw [hss], by rw [hss]; exact h0, _, el', setR_at f1, ?_, ?_, ?_, by show M.fz q.b ≤ _; simpa using hf5⟩
              · simp only [List.size_toArray, hss]; rw [ov_len (by simpa using hroom)]; simpa using f2
              · simp only [List.length_append, List.length_take, List.length_drop]; omega
              · rw [hss, ov_drop (by omega) (by simp; omega), Nat.add_sub_cancel_left]
                exact RRow.ext hx.e0 _ _ _ _ rfl (RRow.ov (i := lo + m) f4 hsrc.row hsrc.n hin1)
            · rw [← he.1]
              refine RV.mk rfl ?_
              simp only [RVc]
              exact ⟨q, _, hq, rfl, by omega, .inr (by rw [hss])⟩
    · cases he
  · cases he
end
end Tm
/- Values made data, values lent: nothing of the program's memory changes. No statement of the seat is proved here. -/
namespace Tm
open Go
set_option linter.unusedVariables false
set_option linter.unusedSimpArgs false
section
variable {I : Inj} {M : Mem} {h h' : Heap}
/-- The same memory, with more cells that never change. -/
def Mem.frz (M : Mem) (fz : Nat → Nat) : Mem := ⟨M.w, fz, M.lo⟩
/-- Data x as a value. -/
def DV (M : Mem) (x : D) (u : Value) : Prop := RDc M.w M.fz x u.cells.toList ∧ isAgg u = !nAg x
theorem DV.rv {x : D} {u : Value} (r : DV M x u) : RV I M (.d x) u := by
  refine .inl (.inr ⟨?_, by simpa only [RVc] using r.1⟩)
  rw [r.2]; cases x <;> rfl
theorem DV.cell {x : D} {u : Value} (r : DV M x u) (hn : nAg x = true) : RDc M.w M.fz x [u] := (r.rv (I := fun _ => none)).dcell hn
theorem DV.of {x : D} {u : Value} (hn : nAg x = true) (r : RDc M.w M.fz x [u]) : DV M x u := by
  obtain ⟨v, e, h1, h2⟩ := r.one hn
  simp only [List.cons.injEq, and_true] at e
  subst e
  exact ⟨by rw [h2]; exact r, by rw [h1, hn]; rfl⟩
theorem cellD_rel {v : AV} {u : Value} {x : D} (hH : RH I M h) (rv : RV I M v u) (hc : cellD v h = some (x, h')) : ∃ fz, Ext M (M.frz fz) ∧ RH I (M.frz fz) h' ∧ DV (M.frz fz) x u := by
  have same : ∀ {x' : D}, x' = x → h = h' → DV M x' u → ∃ fz, Ext M (M.frz fz) ∧ RH I (M.frz fz) h' ∧ DV (M.frz fz) x u := by
    rintro x' rfl rfl hd
    exact ⟨M.fz, Ext.refl M, hH, hd⟩
  unfold cellD at hc
  split at hc
  · simp only [Option.some.injEq, Prod.mk.injEq] at hc
    exact same hc.1 hc.2 (rv.data)
  · simp only [Option.some.injEq, Prod.mk.injEq] at hc
    refine same hc.1 hc.2 (DV.of rfl ?_)
    obtain ⟨A, e1, hr⟩ := rv.zlD
    simp only [RDc]
    exact ⟨A, _, by rw [e1], Nat.le_refl _, fun h0 => by simp [h0], hr⟩
  · simp only [Option.some.injEq, Prod.mk.injEq] at hc
    refine same hc.1 hc.2 (DV.of rfl ?_)
    obtain ⟨q, A, hq, e1, hle, hA⟩ := rv.slR
    simp only [RDc]
    exact ⟨_, _, by rw [e1]⟩
  · rename_i a lo n hn0
    obtain ⟨q, A, hq, e1, hle, hA⟩ := rv.slR
    split at hc
    · rename_i sz l z hob
      split at hc
      · rename_i r hr
        simp only [Option.some.injEq, Prod.mk.injEq] at hc
        obtain ⟨rfl, rfl⟩ := hc
        obtain ⟨o1, o2, hro⟩ := hH.ob a _ q hob hq
        simp only [RO] at hro
        obtain ⟨f0, fs, c, el, f1, f2, f3, f4, f5⟩ := hro
        obtain ⟨g1, g2, g3⟩ := sub_spec hr
        have hnpos : 0 < n := Nat.pos_of_ne_zero (fun h0 => hn0 h0)
        have hA' : A = some ⟨q.b, q.o + lo * q.s, none⟩ := by rcases hA with hA | hA; omega; exact hA
        have hroom : q.o + l.length * q.s ≤ c.size := Nat.le_trans (Nat.add_le_add_left (Nat.mul_le_mul_right _ f3) _) f2
        have hle5 : M.fz q.b ≤ q.o + l.length * q.s := by cases z <;> simp at f5 <;> omega
        let fz : Nat → Nat := fun b => if b = q.b then q.o + l.length * q.s else M.fz b
        have hfz : ∀ b, M.fz b ≤ fz b := by
          intro b
          simp only [fz]
          by_cases hb : b = q.b
          · rw [if_pos hb, hb]; exact hle5
          · rw [if_neg hb]; exact Nat.le_refl _
        have hx : Ext M (M.frz fz) := ⟨rfl, rfl, rfl, rfl, Nat.le_refl _, fun _ _ => rfl, hfz, fun b hb => by
          show fz b = M.fz b
          simp only [fz]; rw [if_neg (by omega)], fun _ => rfl, fun _ _ h _ => h⟩
        refine ⟨fz, hx, hH.mod hob hq hx (fun b hb => ⟨rfl, by show fz b = M.fz b; simp only [fz]; rw [if_neg hb]⟩) (fun b => ?_) ?_, DV.of rfl ?_⟩
        · show fz b ≤ (cellsOf M.w b).length
          simp only [fz]
          by_cases hb : b = q.b
          · rw [if_pos hb, hb, cellsOf_at f1]; simpa using hroom
          · rw [if_neg hb]; exact hH.wf b
        · simp only [RO]
          exact ⟨f0, fs, c, el, f1, f2, f3, RRow.ext hx.e0 _ _ _ _ rfl f4, by show fz q.b ≤ _; simp [fz]⟩
        · simp only [RDc]
          refine ⟨_, _, by rw [e1, g3], by omega, fun h0 => by subst h0; simp at g3; omega, fun _ => ⟨q.b, q.o + lo * q.s, q.s, hA', fs, ?_, ?_⟩⟩
          · show _ ≤ fz q.b
            simp only [fz, if_true]
            have : lo * q.s + r.length * q.s ≤ l.length * q.s := by rw [← Nat.add_mul]; exact Nat.mul_le_mul_right _ (by omega)
            omega
          · have := (f4.drop lo).take n
            rw [List.drop_drop, ← g2] at this
            show RRow M.w fz q.s r ((cellsOf M.w q.b).drop _)
            rw [cellsOf_at f1]
            exact RRow.ext hx.e0 _ _ _ _ rfl this
      · cases hc
    · cases hc
  · cases hc
theorem cellD_nAg {v : AV} {x : D} (hn : nAgV v = true) (hc : cellD v h = some (x, h')) : nAg x = true := by
  unfold cellD at hc
  split at hc
  · simp only [Option.some.injEq, Prod.mk.injEq] at hc
    obtain ⟨rfl, rfl⟩ := hc
    rename_i y
    cases y <;> first | rfl | exact hn
  · simp only [Option.some.injEq, Prod.mk.injEq] at hc; rw [← hc.1]; rfl
  · simp only [Option.some.injEq, Prod.mk.injEq] at hc; rw [← hc.1]; rfl
  · split at hc
    · split at hc
      · simp only [Option.some.injEq, Prod.mk.injEq] at hc; rw [← hc.1]; rfl
      · cases hc
    · cases hc
  · cases hc
theorem DV.ext {M' : Mem} (hx : Ext M M') {x : D} {u : Value} (r : DV M x u) : DV M' x u := ⟨r.1.ext hx.e0, r.2⟩
theorem cellsToD_rel : ∀ {l : List AV} {r : List D} {cs : List Value} {M : Mem} {h h' : Heap}, RH I M h → RVs I M l cs → cellsToD l h = some (r, h') → ∃ fz, Ext M (M.frz fz) ∧ RH I (M.frz fz) h' ∧ RDs M.w fz r cs
  | [], r, cs, M, h, h', hH, hr, hc => by
    simp only [cellsToD, Option.some.injEq, Prod.mk.injEq] at hc
    obtain ⟨rfl, rfl⟩ := hc
    exact ⟨M.fz, Ext.refl M, hH, by simpa only [RVs, RDs] using hr⟩
  | v :: l, r, cs, M, h, h', hH, hr, hc => by
    simp only [RVs] at hr
    obtain ⟨u, t, rfl, hn, hx, hl⟩ := hr
    simp only [cellsToD] at hc
    cases h1 : cellD v h with
    | none => simp [h1] at hc
    | some p =>
      obtain ⟨x, h2⟩ := p
      simp only [h1] at hc
      obtain ⟨fz1, e1, hH1, d1⟩ := cellD_rel hH (RV.mk hn hx) h1
      cases h3 : cellsToD l h2 with
      | none => simp [h3] at hc
      | some p =>
        obtain ⟨r2, h4⟩ := p
        simp only [h3, Option.some.injEq, Prod.mk.injEq] at hc
        obtain ⟨rfl, rfl⟩ := hc
        obtain ⟨fz2, e2, hH2, d2⟩ := cellsToD_rel hH1 (hl.ext e1 (Le.refl I)) h3
        have hnx := cellD_nAg hn h1
        exact ⟨fz2, e1.trans e2, hH2, u, t, rfl, hnx, (d1.ext e2).cell hnx, d2⟩
theorem toD_rel {v : AV} {u : Value} {x : D} (hH : RH I M h) (rv : RV I M v u) (hc : toD v h = some (x, h')) : ∃ fz, Ext M (M.frz fz) ∧ RH I (M.frz fz) h' ∧ DV (M.frz fz) x u := by
  unfold toD at hc
  split at hc
  · rename_i l
    cases h1 : cellsToD l h with
    | none => simp [h1] at hc
    | some p =>
      obtain ⟨r, h2⟩ := p
      simp only [h1, Option.some.injEq, Prod.mk.injEq] at hc
      obtain ⟨rfl, rfl⟩ := hc
      obtain ⟨cs, e1, hr⟩ := rv.agg rfl rfl
      obtain ⟨fz, e2, hH2, d2⟩ := cellsToD_rel hH hr h1
      subst e1
      exact ⟨fz, e2, hH2, by show RDc M.w fz (.ag r) cs.toList; simpa only [RDc] using d2, rfl⟩
  · exact cellD_rel hH rv hc
/-! ### Lending -/
/-- The memory as a callee sees it that has a heap of its own: all there is is old. -/
def Mem.all (M : Mem) : Mem := ⟨M.w, M.fz, M.w.heap.size⟩
mutual
theorem RVc.lent {J : Inj} (hlo : M.lo ≤ M.w.heap.size) : ∀ (x : AV) (cs : List Value), nf x = true → RVc I M x cs → RVc J M.all x cs
  | .d x, cs, _, r => by simp only [RVc] at r ⊢; exact r
  | .u, _, _, r => by simp only [RVc] at r
  | .tu _, _, _, r => by simp only [RVc] at r
  | .np, _, _, r => by simpa only [RVc] using r
  | .nm, _, _, r => by simpa only [RVc] using r
  | .nf, _, _, r => by simpa only [RVc] using r
  | .p a o, _, hn, _ => by simp [nf] at hn
  | .pe l o, _, hn, r => by
    simp only [RVc] at r ⊢
    obtain ⟨b, o0, e, hb, hl, hr, hnf⟩ := r
    refine ⟨b, o0, e, ?_, hl, RVs.lent hlo l _ hnf hr, hnf⟩
    rcases hb with hb | hb
    · exact .inl (Nat.lt_of_lt_of_le hb hlo)
    · exact .inr hb
  | .zl l, _, _, r => by simp only [RVc] at r ⊢; exact r
  | .bs l, _, _, r => by
    simp only [RVc] at r ⊢
    obtain ⟨a, c, e, hc, hr⟩ := r
    refine ⟨a, c, e, hc, fun hl => ?_⟩
    obtain ⟨b, o, s, ha, hs, hb, hrow⟩ := hr hl
    exact ⟨b, o, s, ha, hs, Nat.lt_of_lt_of_le hb hlo, hrow⟩
  | .sl a lo n, _, hn, _ => by simp [nf] at hn
  | .m a, _, hn, _ => by simp [nf] at hn
  | .mp ks vs, _, _, r => by
    simp only [RVc] at r ⊢
    obtain ⟨b, es, ck, e, hb, hm, hk, hv, hnf⟩ := r
    exact ⟨b, es, ck, e, Nat.lt_of_lt_of_le hb hlo, hm, hk, RVl.lent hlo _ _ hnf hv, hnf⟩
  | .f g fs cps, _, hn, r => by
    simp only [RVc] at r ⊢
    simp only [nf, Bool.and_eq_true] at hn
    obtain ⟨a, b, e, h1, h2⟩ := r
    exact ⟨a, b, e, RVl.lent hlo _ _ hn.1 h1, RVl.lent hlo _ _ hn.2 h2⟩
  | .ag l, cs, hn, r => by
    simp only [RVc] at r ⊢
    simp only [nf] at hn
    exact RVs.lent hlo l cs hn r
theorem RVs.lent {J : Inj} (hlo : M.lo ≤ M.w.heap.size) : ∀ (l : List AV) (cs : List Value), nfs l = true → RVs I M l cs → RVs J M.all l cs
  | [], _, _, r => by simpa only [RVs] using r
  | x :: l, cs, hn, r => by
    simp only [RVs] at r ⊢
    simp only [nfs, Bool.and_eq_true] at hn
    obtain ⟨v, t, e, hg, hx, hl⟩ := r
    exact ⟨v, t, e, hg, RVc.lent hlo x _ hn.1 hx, RVs.lent hlo l t hn.2 hl⟩
theorem RVl.lent {J : Inj} (hlo : M.lo ≤ M.w.heap.size) : ∀ (l : List AV) (cs : List Value), nfs l = true → RVl I M l cs → RVl J M.all l cs
  | [], _, _, r => by simpa only [RVl] using r
  | x :: l, cs, hn, r => by
    simp only [RVl] at r ⊢
    simp only [nfs, Bool.and_eq_true] at hn
    obtain ⟨v, t, e, hx, hl⟩ := r
    exact ⟨v, t, e, hx.imp id fun hx => ⟨hx.1, RVc.lent hlo x _ hn.1 hx.2⟩, RVl.lent hlo l t hn.2 hl⟩
end
theorem mapM_cons {α β : Type} {f : α → Option β} {x : α} {l : List α} {r : List β} (h : (x :: l).mapM f = some r) : ∃ y t, f x = some y ∧ l.mapM f = some t ∧ r = y :: t := by
  rw [List.mapM_cons] at h
  cases hx : f x with
  | none => simp [hx] at h
  | some y =>
    cases hl : l.mapM f with
    | none => simp [hx, hl] at h
    | some t => simp [hx, hl] at h; exact ⟨y, t, rfl, rfl, h.symm⟩
/-- x lent is y. -/
def Lent (I : Inj) (M : Mem) (f : AV → Option AV) : Prop := ∀ (v v' : AV) (u : Value), f v = some v' → RV1 I M v u → (∀ J : Inj, RV1 J M.all v' u) ∧ nf v' = true ∧ (nAgV v = true → nAgV v' = true)
theorem Lent.cells {f : AV → Option AV} (hf : Lent I M f) : ∀ {l l' : List AV} {cs : List Value}, l.mapM f = some l' → RVs I M l cs → (∀ J : Inj, RVs J M.all l' cs) ∧ nfs l' = true ∧ l'.length = l.length
  | [], l', cs, hm, hr => by
    have : l' = [] := by simpa using hm.symm
    subst this
    refine ⟨fun _ => ?_, rfl, rfl⟩
    simp only [RVs] at hr ⊢
    exact hr
  | x :: l, l', cs, hm, hr => by
    obtain ⟨y, t, h1, h2, rfl⟩ := mapM_cons hm
    simp only [RVs] at hr
    obtain ⟨v, r, rfl, hn, hx, hl⟩ := hr
    obtain ⟨g1, g2, g3⟩ := hf x y v h1 (RV1.of hn hx)
    obtain ⟨k1, k2, k3⟩ := Lent.cells hf h2 hl
    refine ⟨fun J => ?_, by simp only [nfs, g2, k2, Bool.and_self], by simp [k3]⟩
    simp only [RVs]
    exact ⟨v, r, rfl, g3 hn, (g1 J).cell (g3 hn), k1 J⟩
theorem Lent.vals {f : AV → Option AV} (hf : Lent I M f) : ∀ {l l' : List AV} {cs : List Value}, l.mapM f = some l' → RVl I M l cs → (∀ J : Inj, RVl J M.all l' cs) ∧ nfs l' = true
  | [], l', cs, hm, hr => by
    have : l' = [] := by simpa using hm.symm
    subst this
    refine ⟨fun _ => ?_, rfl⟩
    simp only [RVl] at hr ⊢
    exact hr
  | x :: l, l', cs, hm, hr => by
    obtain ⟨y, t, h1, h2, rfl⟩ := mapM_cons hm
    simp only [RVl] at hr
    obtain ⟨v, r, rfl, hx, hl⟩ := hr
    obtain ⟨g1, g2, g3⟩ := hf x y v h1 hx
    obtain ⟨k1, k2⟩ := Lent.vals hf h2 hl
    refine ⟨fun J => ?_, by simp only [nfs, g2, k2, Bool.and_self]⟩
    simp only [RVl]
    exact ⟨v, r, rfl, g1 J, k1 J⟩
theorem RV1.rv {x : AV} {u : Value} (r : RV1 I M x u) : RV I M x u := .inl r
/-- A value that is lent: to the callee all memory is old. -/
theorem toB_rel (hH : RH I M h) : ∀ (k : Nat), Lent I M (toB h k) := by
  have hlo := hH.lo
  have keep : ∀ (v : AV) (u : Value), nf v = true → RV1 I M v u → (∀ J : Inj, RV1 J M.all v u) ∧ nf v = true ∧ (nAgV v = true → nAgV v = true) := by
    intro v u hn hr
    exact ⟨fun J => hr.imp id fun ⟨a, b⟩ => ⟨a, b.lent hlo v _ hn⟩, hn, id⟩
  intro k
  induction k with
  | zero =>
    intro v v' u hv hr
    cases v with
    | d x => simp only [toB, Option.some.injEq] at hv; subst hv; exact keep _ _ rfl hr
    | u => simp [toB] at hv
    | tu => simp [toB] at hv
    | np => simp only [toB, Option.some.injEq] at hv; subst hv; exact keep _ _ rfl hr
    | nm => simp only [toB, Option.some.injEq] at hv; subst hv; exact keep _ _ rfl hr
    | nf => simp only [toB, Option.some.injEq] at hv; subst hv; exact keep _ _ rfl hr
    | bs l => simp only [toB, Option.some.injEq] at hv; subst hv; exact keep _ _ rfl hr
    | pe l o =>
      simp only [toB, Option.some.injEq] at hv; subst hv
      obtain ⟨b, o0, _, _, _, _, hnf⟩ := hr.rv.pe
      exact keep _ _ (by simpa [nf] using hnf) hr
    | mp ks vs =>
      simp only [toB, Option.some.injEq] at hv; subst hv
      have := hr.rv.cellOf rfl
      simp only [RVc] at this
      obtain ⟨b, es, ck, _, _, _, _, _, hnf⟩ := this
      exact keep _ _ (by simpa [nf] using hnf) hr
    | zl l => exact zl hlo (by simpa [toB] using hv) hr
    | sl a lo n => exact sl hH hv hr
    | _ => simp [toB] at hv
  | succ k ih =>
    intro v v' u hv hr
    cases v with
    | d x => simp only [toB, Option.some.injEq] at hv; subst hv; exact keep _ _ rfl hr
    | u => simp [toB] at hv
    | tu => simp [toB] at hv
    | np => simp only [toB, Option.some.injEq] at hv; subst hv; exact keep _ _ rfl hr
    | nm => simp only [toB, Option.some.injEq] at hv; subst hv; exact keep _ _ rfl hr
    | nf => simp only [toB, Option.some.injEq] at hv; subst hv; exact keep _ _ rfl hr
    | bs l => simp only [toB, Option.some.injEq] at hv; subst hv; exact keep _ _ rfl hr
    | pe l o =>
      simp only [toB, Option.some.injEq] at hv; subst hv
      obtain ⟨b, o0, _, _, _, _, hnf⟩ := hr.rv.pe
      exact keep _ _ (by simpa [nf] using hnf) hr
    | mp ks vs =>
      simp only [toB, Option.some.injEq] at hv; subst hv
      have := hr.rv.cellOf rfl
      simp only [RVc] at this
      obtain ⟨b, es, ck, _, _, _, _, _, hnf⟩ := this
      exact keep _ _ (by simpa [nf] using hnf) hr
    | zl l => exact zl hlo (by simpa [toB] using hv) hr
    | sl a lo n => exact sl hH hv hr
    | p a o =>
      obtain ⟨q, hq, rfl⟩ := hr.rv.ptr
      simp only [toB] at hv
      split at hv
      · rename_i l hob
        obtain ⟨o1, o2, hro⟩ := hH.ob a _ q hob hq
        simp only [RO] at hro
        obtain ⟨c, el, f1, f2, f3, f4⟩ := hro
        split at hv
        · rename_i l' hm
          simp only [Option.some.injEq] at hv
          subst hv
          obtain ⟨k1, k2, k3⟩ := ih.cells hm f3
          have hl := f3.len
          refine ⟨fun J => RV1.of rfl ?_, by simpa [nf] using k2, fun _ => rfl⟩
          simp only [RVc]
          refine ⟨q.b, q.o, rfl, .inl o2, ?_, ?_, k2⟩
          · rw [show M.all.w = M.w from rfl, cellsOf_at f1, f2, k3]; omega
          · rw [show M.all.w = M.w from rfl, cellsOf_at f1, f2, k3, List.drop_zero, List.take_of_length_le (by omega)]
            exact k1 J
        · cases hv
      · rename_i sz l z hob
        obtain ⟨o1, o2, hro⟩ := hH.ob a _ q hob hq
        simp only [RO] at hro
        obtain ⟨f0, fs, c, el, f1, f2, f3, f4, f5⟩ := hro
        subst f0
        split at hv
        · rename_i d hd
          simp only [Option.some.injEq] at hv
          subst hv
          obtain ⟨e1, e2⟩ := f4.get hd
          have hs := e2.len
          rw [List.length_take, List.length_drop] at hs
          rw [List.length_drop] at e1
          simp only [Array.length_toList, List.length_drop] at e1 hs
          have hds : (cellsD d).length = q.s := by rw [← hs]; exact Nat.min_eq_left (by omega)
          have hdm : o / q.s * q.s + o % q.s = o := by have := Nat.div_add_mod o q.s; rw [Nat.mul_comm] at this; exact this
          refine ⟨fun J => RV1.of rfl ?_, by simp only [nf, nfs_d], fun _ => rfl⟩
          simp only [RVc]
          refine ⟨q.b, q.o + o / q.s * q.s, by rw [Nat.add_assoc, hdm], .inl o2, ?_, ?_, nfs_d _⟩
          · rw [show M.all.w = M.w from rfl, cellsOf_at f1, List.length_map, hds, show c.toList.length = c.size from rfl]; omega
          · rw [show M.all.w = M.w from rfl, cellsOf_at f1, List.length_map, hds]
            have := RVs.ofD (I := J) (M := M.all) (RDs.cellsD e2)
            rwa [List.drop_drop] at this
        · cases hv
      · cases hv
    | m a =>
      simp only [toB] at hv
      have := hr.rv.cellOf rfl
      simp only [RVc] at this
      obtain ⟨q, hq, e1⟩ := this
      simp only [List.cons.injEq, and_true] at e1
      subst e1
      split at hv
      · rename_i ks vs hob
        obtain ⟨o1, o2, hro⟩ := hH.ob a _ q hob hq
        simp only [RO] at hro
        obtain ⟨es, ck, f1, f2, f3, f4⟩ := hro
        split at hv
        · rename_i vs' hm
          simp only [Option.some.injEq] at hv
          subst hv
          obtain ⟨k1, k2⟩ := ih.vals hm f3
          refine ⟨fun J => RV1.of rfl ?_, by simpa [nf] using k2, fun _ => rfl⟩
          simp only [RVc]
          exact ⟨q.b, es, ck, rfl, o2, f1, f2, k1 J, k2⟩
        · cases hv
      · cases hv
    | f g fs cs =>
      obtain ⟨x, y, rfl, h1, h2⟩ := hr.rv.fn
      simp only [toB] at hv
      split at hv
      · rename_i fs' cs' hm1 hm2
        simp only [Option.some.injEq] at hv
        subst hv
        obtain ⟨k1, k2⟩ := ih.vals hm1 h1
        obtain ⟨k3, k4⟩ := ih.vals hm2 h2
        refine ⟨fun J => RV1.of rfl ?_, by simp only [nf, k2, k4, Bool.and_self], fun _ => rfl⟩
        simp only [RVc]
        exact ⟨x, y, rfl, k1 J, k3 J⟩
      · cases hv
    | ag l =>
      simp only [toB] at hv
      obtain ⟨cs, rfl, hl⟩ := hr.rv.agg rfl rfl
      split at hv
      · rename_i l' hm
        simp only [Option.some.injEq] at hv
        subst hv
        obtain ⟨k1, k2, k3⟩ := ih.cells hm hl
        exact ⟨fun J => RV1.agg (k1 J), by simpa [nf] using k2, fun hn => by simp [nAgV] at hn⟩
      · cases hv
where
  zl {l : List D} {v' : AV} {u : Value} (hlo : M.lo ≤ M.w.heap.size) (hv : AV.d (.sl l) = v') (hr : RV1 I M (.zl l) u) : (∀ J : Inj, RV1 J M.all v' u) ∧ nf v' = true ∧ (nAgV (.zl l) = true → nAgV v' = true) := by
    subst hv
    obtain ⟨A, rfl, h1⟩ := hr.rv.zlD
    refine ⟨fun J => RV1.of rfl ?_, rfl, fun _ => rfl⟩
    simp only [RVc, RDc]
    exact ⟨A, _, rfl, Nat.le_refl _, fun h0 => by simp [h0], h1⟩
  sl {a lo n k : Nat} {v' : AV} {u : Value} (hH : RH I M h) (hv : toB h k (.sl a lo n) = some v') (hr : RV1 I M (.sl a lo n) u) : (∀ J : Inj, RV1 J M.all v' u) ∧ nf v' = true ∧ (nAgV (.sl a lo n) = true → nAgV v' = true) := by
    have hv : (match h.get a with
      | some (.row _ l _) => (match sub l lo n with
        | some r => some (AV.bs r)
        | none => none)
      | _ => none) = some v' := by
      cases k <;> exact hv
    obtain ⟨q, A, hq, rfl, hle, hA⟩ := hr.rv.slR
    split at hv
    · rename_i sz l z hob
      split at hv
      · rename_i r hsub
        simp only [Option.some.injEq] at hv
        subst hv
        obtain ⟨o1, o2, hro⟩ := hH.ob a _ q hob hq
        simp only [RO] at hro
        obtain ⟨f0, fs, c, el, f1, f2, f3, f4, f5⟩ := hro
        obtain ⟨g1, g2, g3⟩ := sub_spec hsub
        refine ⟨fun J => RV1.of rfl ?_, rfl, fun _ => rfl⟩
        simp only [RVc]
        refine ⟨A, _, by rw [g3], by omega, fun hne => ?_⟩
        have hpos := List.length_pos_iff.2 hne
        have hA' : A = some ⟨q.b, q.o + lo * q.s, none⟩ := by rcases hA with hA | hA; omega; exact hA
        refine ⟨q.b, _, q.s, hA', fs, o2, ?_⟩
        have := (f4.drop lo).take n
        rw [List.drop_drop, ← g2] at this
        show RRow M.w M.fz q.s r ((cellsOf M.w q.b).drop _)
        rw [cellsOf_at f1]; exact this
      · cases hv
    · cases hv
end
end Tm
