/- The abstract machine on trees, part E. No statement of the seat is proved here. -/
import Derived.Laws.BytesString
import Derived.Test.YtmciehdmmnkdhaaGreatDoorTmD
set_option linter.unusedVariables false
set_option linter.unusedSimpArgs false
set_option linter.constructorNameAsVariable false
set_option linter.unusedSectionVars false
set_option linter.deprecated false
set_option linter.unnecessarySimpa false
/- append, copy, clear, make, values and slices that are built. No statement of the seat is proved here. -/
namespace Tm
open Go
set_option linter.unusedVariables false
set_option linter.unusedSimpArgs false
section
variable {P : Program} {G : Nat → Option AV} {I : Inj} {M : Mem} {e : Env} {h h' : Heap} {a : Act} {k : Nat} {v : AV} {o : Oper}
theorem sim_app (hG : GOk G M) (hE : ER I M e a.tmps) (hH : RH I M h) (hk : I k = none) {t t' el : TypeId} {x y : Operand} {cx cy : Opd} {d' : TypeDesc} {zs : List D} {as : Array Operand} {ts : Array TypeId} (ho : o.op = .call { callee := .builtin .append, args := as, argTypes := ts }) (has : as.toList = [x, y]) (h1 : ts[0]? = some t) (h2 : ts[1]? = some t') (ht : P.underlying t = some (.slice el)) (ht' : P.underlying t' = some d') (hd' : ∀ kd, d' ≠ .int kd) (hz : zeroD P el = some zs) (hx : opd G x = some cx) (hy : opd G y = some cy) (hev : evOp (.app zs.length cx cy) e h k = some (v, h')) : Sims P I M k o a v h' := by
  have rx := opd_rel hG hE hx
  have ry := opd_rel hG hE hy
  have has' : as = #[x, y] := by rw [← Array.toArray_toList (xs := as), has]
  subst has'
  obtain ⟨i, z, hi, hz0, hs, h0, hb, hzs, hzr⟩ := zeroD_row hz
  have fin : ∀ {ys : List D} {flat : List Value}, Src P M zs.length ys (a.eval y) flat → appA zs.length (cx.ev e) ys h k = some (v, h') → Sims P I M k o a v h' := by
    intro ys flat hsrc he
    obtain ⟨v', M', I', g1, g2, g3, g4, g5, g6⟩ := app_rel o.type h1 h2 ht ht' hd' hi hs hb hz0 hzs (by omega) hH hk hsrc rx he
    refine ⟨v', M', I', .inl ?_, g2, g3, g4, g5, g6⟩
    simp only [execOp, ho, resolve, invoke, Go.builtin, Sem.run_bind, Sem.run_pure, Result.andThen_ok, List.map_toArray, List.map_cons, List.map_nil]
    rw [g1]; rfl
  simp only [evOp] at hev
  split at hev
  · rename_i s hc
    rw [hc] at ry
    cases hz1 : zs.length == 1 with
    | false => simp [hz1] at hev
    | true =>
      simp only [hz1, cond_true] at hev
      have hz1' : zs.length = 1 := by simpa using hz1
      refine fin (flat := s.data.toList.map fun b => .int .u8 b.toNat) ?_ hev
      rw [ry.str, hz1']; exact src_str
  · rename_i n lo m hc
    rw [hc] at ry
    split at hev
    · rename_i s l z1 hob
      split at hev
      · rename_i ys hsub
        cases hss : s == zs.length with
        | false => simp [hss] at hev
        | true =>
          simp only [hss, cond_true] at hev
          have he : elems (.sl n lo m) h = some ys := by simp only [elems, hob, hsub]
          have hhs : headSz ys zs.length = true := by
            obtain ⟨q, A, hq, _⟩ := ry.slR
            have hro := (hH.ob n _ q hob hq).2.2
            simp only [RO] at hro
            obtain ⟨f0, fs, c, el', f1, f2, f3, f4, f5⟩ := hro
            obtain ⟨g1, g2, g3⟩ := sub_spec hsub
            have r1 := (f4.drop lo).take m
            rw [← g2] at r1
            cases ys with
            | nil => rfl
            | cons y1 ys =>
              have := r1.len1
              have hs' : s = zs.length := by simpa using hss
              simp only [headSz, beq_iff_eq]; omega
          obtain ⟨flat, hsrc⟩ := elems_src (P := P) hH ry he hhs
          exact fin hsrc hev
      · cases hev
    · cases hev
  · rename_i hn1 hn2
    split at hev
    · rename_i ys hys
      cases hhs : headSz ys zs.length with
      | false => simp [hhs] at hev
      | true =>
        simp only [hhs, cond_true] at hev
        obtain ⟨flat, hsrc⟩ := elems_src (P := P) hH ry hys hhs
        exact fin hsrc hev
    · cases hev
theorem sim_copy (hG : GOk G M) (hE : ER I M e a.tmps) (hH : RH I M h) {t el : TypeId} {x y : Operand} {cx cy : Opd} {zs : List D} {as : Array Operand} {ts : Array TypeId} (ho : o.op = .call { callee := .builtin .copy, args := as, argTypes := ts }) (has : as.toList = [x, y]) (h1 : ts[0]? = some t) (ht : P.underlying t = some (.slice el)) (hz : zeroD P el = some zs) (hx : opd G x = some cx) (hy : opd G y = some cy) (hev : evOp (.copy zs.length cx cy) e h k = some (v, h')) : Sims P I M k o a v h' := by
  have rx := opd_rel hG hE hx
  have ry := opd_rel hG hE hy
  have has' : as = #[x, y] := by rw [← Array.toArray_toList (xs := as), has]
  subst has'
  obtain ⟨i, z, hi, hz0, hs, h0, hb, hzs, hzr⟩ := zeroD_row hz
  simp only [evOp] at hev
  split at hev
  · rename_i n lo m hc
    rw [hc] at rx
    split at hev
    · rename_i ys s l hys hob
      cases hcond : s == zs.length && headSz ys zs.length && Nat.ble (lo + m) l.length with
      | false => simp [hcond] at hev
      | true =>
        simp only [hcond, cond_true, Option.some.injEq, Prod.mk.injEq] at hev
        obtain ⟨rfl, rfl⟩ := hev
        simp only [Bool.and_eq_true, beq_iff_eq] at hcond
        obtain ⟨⟨hss, hhs⟩, hle⟩ := hcond
        have hle' := ble_le hle
        obtain ⟨q, A, hq, e1, hqle, hA⟩ := rx.slR
        obtain ⟨o1, o2, hro⟩ := hH.ob n _ q hob hq
        simp only [RO] at hro
        obtain ⟨f0, fs, c, el', f1, f2, f3, f4, f5⟩ := hro
        have hqs : q.s = zs.length := by omega
        obtain ⟨flat, hsrc⟩ := elems_src (P := P) hH ry hys hhs
        let j := Nat.min ys.length m
        have hj1 : j ≤ ys.length := Nat.min_le_left _ _
        have hj2 : j ≤ m := Nat.min_le_right _ _
        have htake : ys.take m = ys.take j := by
          simp only [j]
          by_cases hm : ys.length ≤ m
          · rw [show Nat.min ys.length m = ys.length from Nat.min_eq_left hm, List.take_length, List.take_of_length_le hm]
          · rw [show Nat.min ys.length m = m from Nat.min_eq_right (by omega)]
        have hfl : (flat.take (j * zs.length)).length = j * zs.length := by
          rw [List.length_take, hsrc.n]
          exact Nat.min_eq_left (Nat.mul_le_mul_right _ hj1)
        have hroom : q.o + lo * zs.length + (flat.take (j * zs.length)).length ≤ c.size := by
          rw [hfl]
          have : (lo + j) * zs.length ≤ q.c * zs.length := Nat.mul_le_mul_right _ (by omega)
          rw [hqs] at f2
          rw [Nat.add_mul] at this
          omega
        have hst := run_storeCells (P := P) (x := q.o + lo * zs.length) (vs := flat.take (j * zs.length)) f1 hroom (fun v hv => hsrc.oc v (List.mem_of_mem_take hv))
        have hf5 : M.fz q.b ≤ q.o := by simpa using f5
        have hx' := setR_ext (cs := ov c.toList (q.o + lo * zs.length) (flat.take (j * zs.length))) f1 o1 (by rw [ov_take (by omega) (by simp; omega)])
        have hmin : (Nat.min m ys.length : Nat) = j := Nat.min_comm m ys.length
        have hrow : l.take lo ++ ys.take m ++ l.drop (lo + Nat.min m ys.length) = ov l lo (ys.take j) := by
          unfold ov
          rw [htake, hmin, List.length_take, Nat.min_eq_left hj1]
        have hff : (Builtin.firstCells zs.length (Nat.min ys.length m) (a.eval y)).run P M.w = .ok (flat.take (j * zs.length)).toArray M.w := hsrc.first j M.w hj1 rfl
        have run : (execOp a.eval o).run P M.w = .ok (.value (.int .i64 (j : Nat))) (M.setR q.b (ov c.toList (q.o + lo * zs.length) (flat.take (j * zs.length)))).w := by
          simp only [execOp, ho, resolve, invoke, Go.builtin, Sem.run_bind, Sem.run_pure, Result.andThen_ok, List.map_toArray, List.map_cons, List.map_nil]
          unfold Builtin.copy_
          simp only [h1, List.getElem?_toArray, List.getElem?_cons_zero, List.getElem?_cons_succ, e1, Sem.run_bind, run_underlying ht, Result.andThen_ok, hsrc.len, run_sizeOf hi, hs, hff, goInt, Sem.run_pure]
          by_cases hlo : q.c = lo
          · have hm0 : m = 0 := by omega
            have hj0 : j = 0 := by omega
            have h00 : Nat.min ys.length m = 0 := hj0
            have hw : (M.setR q.b (ov c.toList (q.o + lo * zs.length) (flat.take (j * zs.length)))).w = M.w := by
              rw [hj0, Nat.zero_mul, List.take_zero, ov_nil]
              simp only [Mem.setR, Array.toArray_toList]
              exact setRow_self _ _ _ _ _ f1
            rw [hw, hj0, Nat.zero_mul, List.take_zero, h00]
            cases A <;> rfl
          · have hA' : A = some ⟨q.b, q.o + lo * q.s, none⟩ := by rcases hA with hA | hA; exact absurd hA hlo; exact hA
            subst hA'
            rw [hqs]
            have hst' := hst
            simp only [Sem.run_bind, List.toList_toArray, hst', Result.andThen_ok]
            rfl
        refine ⟨_, _, I, .inl run, hx', Le.refl I, fun x hx => .inl hx, ?_, ?_⟩
        · rw [hrow]
          refine hH.mod hob hq hx' (fun b hb => setR_same hb) (setR_wf f1 (by rw [ov_len (by simpa using hroom)]; simp) hH.wf) ?_
          simp only [RO]
          refine ⟨f0, fs, _, el', setR_at f1, ?_, ?_, ?_, by show M.fz q.b ≤ _; simpa using hf5⟩
          · simp only [List.size_toArray]; rw [ov_len (by simpa using hroom)]; simpa using f2
          · rw [ov_len (by rw [List.length_take, Nat.min_eq_left hj1]; omega)]; exact f3
          · rw [ov_drop (by omega) (by simp; omega), Nat.add_sub_cancel_left]
            rw [hqs] at f4 ⊢
            have hr1 := hsrc.row.takeC j hj1
            exact RRow.ext hx'.e0 _ _ _ _ rfl (RRow.ov (i := lo) f4 hr1.1 hr1.2 (by rw [List.length_take, Nat.min_eq_left hj1]; omega))
        · rw [hmin]; exact RV.mkInt _ _
    · cases hev
  · cases hev
theorem zeroCells_eq {zs : Array Value} (hz : 0 < zs.size) (n : Nat) : (Builtin.zeroCells zs n).toList = repC zs.toList n := by unfold Builtin.zeroCells; exact repC_eq hz n
theorem repC_oc {zs : List Value} (h : ∀ v ∈ zs, v.oneCell' = true) : ∀ (m : Nat), ∀ v ∈ repC zs m, v.oneCell' = true
  | 0, v, hv => by simp [repC] at hv
  | m + 1, v, hv => by
    rcases List.mem_append.1 (show v ∈ zs ++ repC zs m from hv) with hv | hv
    · exact h v hv
    · exact repC_oc h m v hv
theorem sim_clear (hG : GOk G M) (hE : ER I M e a.tmps) (hH : RH I M h) {t el : TypeId} {x : Operand} {cx : Opd} {zs : List D} {as : Array Operand} {ts : Array TypeId} (ho : o.op = .call { callee := .builtin .clear, args := as, argTypes := ts }) (has : as.toList = [x]) (h1 : ts[0]? = some t) (ht : P.underlying t = some (.slice el)) (hz : zeroD P el = some zs) (hx : opd G x = some cx) (hev : evOp (.clear zs cx) e h k = some (v, h')) : Sims P I M k o a v h' := by
  have rx := opd_rel hG hE hx
  have has' : as = #[x] := by rw [← Array.toArray_toList (xs := as), has]
  subst has'
  obtain ⟨i, z, hi, hz0, hs, h0, hb, hzs, hzr⟩ := zeroD_row hz
  have done : RV I M (.tu []) (.tuple #[]) := .inr ⟨_, _, rfl, rfl, rfl⟩
  have zero : ∀ {A : Option Addr} {c : Nat}, a.eval x = .slice A 0 c → (execOp a.eval o).run P M.w = .ok (.value (.tuple #[])) M.w := by
    intro A c e1
    simp only [execOp, ho, resolve, invoke, Go.builtin, Sem.run_bind, Sem.run_pure, Result.andThen_ok, List.map_toArray, List.map_cons, List.map_nil]
    unfold Builtin.clear_
    simp only [h1, List.getElem?_toArray, List.getElem?_cons_zero, e1, Sem.run_bind, run_underlying ht, Result.andThen_ok]
    cases A <;> rfl
  simp only [evOp] at hev
  split at hev
  · rename_i n lo m hc
    rw [hc] at rx
    split at hev
    · rename_i s l hob
      cases hcond : s == zs.length && Nat.ble (lo + m) l.length with
      | false => simp [hcond] at hev
      | true =>
        simp only [hcond, cond_true, Option.some.injEq, Prod.mk.injEq] at hev
        obtain ⟨rfl, rfl⟩ := hev
        simp only [Bool.and_eq_true, beq_iff_eq] at hcond
        obtain ⟨hss, hle⟩ := hcond
        have hle' := ble_le hle
        obtain ⟨q, A, hq, e1, hqle, hA⟩ := rx.slR
        obtain ⟨o1, o2, hro⟩ := hH.ob n _ q hob hq
        simp only [RO] at hro
        obtain ⟨f0, fs, c, el', f1, f2, f3, f4, f5⟩ := hro
        have hqs : q.s = zs.length := by omega
        have hzl : z.cells.toList.length = zs.length := by simpa using hzs
        have hfl : (repC z.cells.toList m).length = m * zs.length := by rw [repC_len, hzl]
        have hroom : q.o + lo * zs.length + (repC z.cells.toList m).length ≤ c.size := by
          rw [hfl]
          have : (lo + m) * zs.length ≤ q.c * zs.length := Nat.mul_le_mul_right _ (by omega)
          rw [hqs] at f2
          rw [Nat.add_mul] at this
          omega
        have hoc := repC_oc (hzr M.w M.fz).oc m
        have hst := run_storeCells (P := P) (x := q.o + lo * zs.length) (vs := repC z.cells.toList m) f1 hroom hoc
        have hf5 : M.fz q.b ≤ q.o := by simpa using f5
        have hx' := setR_ext (cs := ov c.toList (q.o + lo * zs.length) (repC z.cells.toList m)) f1 o1 (by rw [ov_take (by omega) (by simp; omega)])
        have hrow : l.take lo ++ List.replicate m (oneD zs) ++ l.drop (lo + m) = ov l lo (List.replicate m (oneD zs)) := by
          unfold ov; rw [List.length_replicate]
        have run : (execOp a.eval o).run P M.w = .ok (.value (.tuple #[])) (M.setR q.b (ov c.toList (q.o + lo * zs.length) (repC z.cells.toList m))).w := by
          cases m with
          | zero =>
            have hw : (M.setR q.b (ov c.toList (q.o + lo * zs.length) (repC z.cells.toList 0))).w = M.w := by
              simp only [repC, ov_nil, Mem.setR, Array.toArray_toList]
              exact setRow_self _ _ _ _ _ f1
            rw [hw]; exact zero e1
          | succ m =>
            have hA' : A = some ⟨q.b, q.o + lo * q.s, none⟩ := by rcases hA with hA | hA; omega; exact hA
            subst hA'
            rw [hqs] at e1
            simp only [execOp, ho, resolve, invoke, Go.builtin, Sem.run_bind, Sem.run_pure, Result.andThen_ok, List.map_toArray, List.map_cons, List.map_nil]
            unfold Builtin.clear_
            simp only [h1, List.getElem?_toArray, List.getElem?_cons_zero, e1, Sem.run_bind, run_underlying ht, Result.andThen_ok, run_zeroValue hi hz0]
            rw [zeroCells_eq (by omega), hst]
            rfl
        refine ⟨_, _, I, .inl run, hx', Le.refl I, fun x hx => .inl hx, ?_, done.ext hx' (Le.refl I)⟩
        rw [hrow]
        refine hH.mod hob hq hx' (fun b hb => setR_same hb) (setR_wf f1 (by rw [ov_len (by simpa using hroom)]; simp) hH.wf) ?_
        simp only [RO]
        refine ⟨f0, fs, _, el', setR_at f1, ?_, ?_, ?_, by show M.fz q.b ≤ _; simpa using hf5⟩
        · simp only [List.size_toArray]; rw [ov_len (by simpa using hroom)]; simpa using f2
        · rw [ov_len (by rw [List.length_replicate]; omega)]; exact f3
        · rw [ov_drop (by omega) (by simp; omega), Nat.add_sub_cancel_left]
          rw [hqs] at f4 ⊢
          have hr1 := repC_row (oneD_rel (hzr M.w M.fz) (by omega)) m
          rw [hzl] at hr1
          exact RRow.ext hx'.e0 _ _ _ _ rfl (RRow.ov (i := lo) f4 hr1 (by rw [hfl, List.length_replicate]) (by rw [List.length_replicate]; omega))
    · cases hev
  · rename_i hc
    rw [hc] at rx
    simp only [Option.some.injEq, Prod.mk.injEq] at hev
    obtain ⟨rfl, rfl⟩ := hev
    obtain ⟨A, e1, _⟩ := rx.zlD
    exact Sims.calm hH (zero e1) done
  · rename_i hc
    rw [hc] at rx
    simp only [Option.some.injEq, Prod.mk.injEq] at hev
    obtain ⟨rfl, rfl⟩ := hev
    have := rx.dcell rfl
    simp only [RDc] at this
    obtain ⟨A, c, e1⟩ := this
    simp only [List.cons.injEq, and_true] at e1
    exact Sims.calm hH (zero e1) done
  · rename_i hc
    rw [hc] at rx
    simp only [Option.some.injEq, Prod.mk.injEq] at hev
    obtain ⟨rfl, rfl⟩ := hev
    obtain ⟨A, c, e1, _⟩ := rx.slD
    exact Sims.calm hH (zero e1) done
  · cases hev
end
end Tm
/- make, values and slices that are built. No statement of the seat is proved here. -/
namespace Tm
open Go
set_option linter.unusedVariables false
set_option linter.unusedSimpArgs false
set_option maxRecDepth 20000
section
variable {P : Program} {G : Nat → Option AV} {I : Inj} {M : Mem} {e : Env} {h h' : Heap} {a : Act} {k : Nat} {v : AV} {o : Oper}
theorem wrap_nat {n : Nat} (h : n < 4294967296) : IntKind.i64.wrap (n : Int) = n := by
  have h1 : (n : Int) % 2 ^ 64 = n := by omega
  simp only [IntKind.wrap, IntKind.bits, IntKind.signed, h1]
  have : ¬ ((n : Int) ≥ 2 ^ 63) := by omega
  simp only [decide_eq_false this, Bool.and_false, Bool.false_eq_true, if_false]
theorem sim_mkslice (hG : GOk G M) (hE : ER I M e a.tmps) (hH : RH I M h) (hk : I k = none) {t el : TypeId} {x y : Operand} {cx cy : Opd} {zs : List D} (ho : o.op = .makeSlice t x y) (ht : P.underlying t = some (.slice el)) (hz : zeroD P el = some zs) (hx : opd G x = some cx) (hy : opd G y = some cy) (hev : evOp (.mkslice zs cx cy) e h k = some (v, h')) : Sims P I M k o a v h' := by
  have rx := opd_rel hG hE hx
  have ry := opd_rel hG hE hy
  obtain ⟨i, z, hi, hz0, hs, h0, hb, hzs, hzr⟩ := zeroD_row hz
  have hzl : z.cells.toList.length = zs.length := by simpa using hzs
  have run : ∀ {n : Nat} {k1 k2 : IntKind}, n < 4294967296 → a.eval x = .int k1 n → a.eval y = .int k2 n → (execOp a.eval o).run P M.w = .ok (.value (.slice (some ⟨M.w.heap.size, 0, none⟩) n n)) (M.push (.cells (repC z.cells.toList n).toArray el) 0).w := by
    intro n k1 k2 hn h1 h2
    have hbn : i.bytes * n ≤ 17592186044416 := Nat.le_trans (Nat.mul_le_mul hb (Nat.le_of_lt hn)) (by decide)
    have hle : (i.bytes : Int) * (n : Int) ≤ 17592186044416 := by
      have : ((i.bytes * n : Nat) : Int) ≤ 17592186044416 := by omega
      rwa [Int.natCast_mul] at this
    have c2 : decide ((n : Int) < 0) = false := decide_eq_false (by omega)
    have c3 : decide ((i.bytes : Int) * (n : Int) > 2 ^ 48) = false := decide_eq_false (by omega)
    have c4 : decide ((n : Int) > (n : Int)) = false := decide_eq_false (by omega)
    simp only [execOp, ho, h1, h2]
    unfold Instr.makeSlice
    simp only [Sem.run_bind, run_underlying ht, Result.andThen_ok, asInt, asIntOf, Sem.run_pure, run_typeInfo hi, wrap_nat hn, c2, c3, c4, Bool.or_self, Bool.false_eq_true, if_false, run_askRoom, run_sizeOf hi, Int.toNat_natCast]
    by_cases hn0 : n * i.size = 0
    · have hn1 : n = 0 := by
        rcases Nat.mul_eq_zero.1 hn0 with hh | hh
        · exact hh
        · omega
      subst hn1
      rw [if_pos hn0]
      simp only [Sem.run_bind, Sem.run_pure, Result.andThen_ok, newRow, run_newObj, Nat.zero_mul]
      have e0 : Array.map (fun x => (#[] : Array Value)[x % (#[] : Array Value).size]!) (Array.range 0) = (repC z.cells.toList 0).toArray := by
        apply Array.toList_inj.1; simp [repC]
      rw [e0]; rfl
    · rw [if_neg hn0]
      simp only [Sem.run_bind, Sem.run_pure, Result.andThen_ok, run_zeroValue hi hz0, newRow, run_newObj]
      have e1 : Array.map (fun x => z.cells[x % z.cells.size]!) (Array.range (n * i.size)) = (repC z.cells.toList n).toArray := by
        apply Array.toList_inj.1
        rw [hs, ← hzs, repC_eq (by omega)]
      rw [e1]; rfl
  simp only [evOp] at hev
  split at hev
  · rename_i h1 h2
    simp only [Option.some.injEq, Prod.mk.injEq] at hev
    obtain ⟨rfl, rfl⟩ := hev
    obtain ⟨k1, e1⟩ := natA_rel rx h1
    obtain ⟨k2, e2⟩ := natA_rel ry h2
    have hx' := push_ext hH.wf hH.lo (.cells (repC z.cells.toList 0).toArray el) 0
    refine ⟨_, _, I, .inl (run (by omega) e1 e2), hx', Le.refl I, fun x hx => .inl hx, hH.push _ 0 (Nat.zero_le _), RV.mk rfl ?_⟩
    simp only [RVc, List.length_nil]
    exact ⟨_, rfl, fun h => absurd rfl h⟩
  · rename_i n c _ h1 h2
    cases hc : n == c && Nat.blt n 4294967296 with
    | false => simp [hc] at hev
    | true =>
      simp only [hc, cond_true, Option.some.injEq, Prod.mk.injEq] at hev
      obtain ⟨rfl, rfl⟩ := hev
      simp only [Bool.and_eq_true, beq_iff_eq] at hc
      obtain ⟨rfl, hlt⟩ := hc
      obtain ⟨k1, e1⟩ := natA_rel rx h1
      obtain ⟨k2, e2⟩ := natA_rel ry h2
      have hx' := push_ext hH.wf hH.lo (.cells (repC z.cells.toList n).toArray el) 0
      refine ⟨_, _, I.set k ⟨M.w.heap.size, 0, n, zs.length⟩, .inl (run (blt_lt hlt) e1 e2), hx', Inj.set_le _ hk, Inj.set_only, hH.new hk ?_ (by have := blt_lt hlt; omega), RV.mk rfl ?_⟩
      · simp only [RO]
        refine ⟨trivial, by omega, _, el, push_at, ?_, by simp, ?_, by simp [Mem.push]⟩
        · simp only [List.size_toArray, repC_len, hzl]; omega
        · have hr1 := repC_row (oneD_rel (hzr M.w M.fz) (by omega)) n
          rw [hzl] at hr1
          simpa using RRow.ext hx'.e0 _ _ _ _ rfl hr1
      · simp only [RVc]
        exact ⟨_, _, Inj.set_same, rfl, by simp, .inr (by simp)⟩
  · cases hev
theorem foldl_ov : ∀ (vs : List Value) (off j : Nat) (cells : Array Value), off + j + vs.length ≤ cells.size → ((vs.zipIdx j).foldl (fun cs (p : Value × Nat) => cs.setIfInBounds (off + p.2) p.1) cells).toList = ov cells.toList (off + j) vs
  | [], off, j, cells, h => by simp [ov]
  | v :: vs, off, j, cells, h => by
    simp only [List.zipIdx_cons, List.foldl_cons]
    rw [foldl_ov vs off (j + 1) _ (by simp at h ⊢; omega), Array.toList_setIfInBounds]
    simp only [List.length_cons] at h
    have hlt : off + j < cells.toList.length := by simp; omega
    rw [List.set_eq_take_append_cons_drop, if_pos hlt]
    have hA : (cells.toList.take (off + j)).length = off + j := by rw [List.length_take]; omega
    generalize hB : cells.toList.drop (off + j + 1) = B
    unfold ov
    have e1 : (cells.toList.take (off + j) ++ v :: B).take (off + (j + 1)) = cells.toList.take (off + j) ++ [v] := by
      rw [List.take_append, hA, List.take_of_length_le (by omega), show off + (j + 1) - (off + j) = 1 by omega]; rfl
    have e2 : (cells.toList.take (off + j) ++ v :: B).drop (off + (j + 1) + vs.length) = cells.toList.drop (off + j + (v :: vs).length) := by
      rw [List.drop_append, hA, List.drop_of_length_le (by omega), List.nil_append, show off + (j + 1) + vs.length - (off + j) = vs.length + 1 by omega, List.drop_succ_cons, ← hB, List.drop_drop]
      congr 1
      simp only [List.length_cons]; omega
    rw [e1, e2]
    simp only [List.append_assoc, List.singleton_append]
theorem fill_step (cells : Array Value) (off : Nat) (vs : Array Value) (h : off + vs.size ≤ cells.size) : (vs.zipIdx.foldl (fun cs (c, j) => cs.setIfInBounds (off + j) c) cells).toList = ov cells.toList off vs.toList := by
  have := foldl_ov vs.toList off 0 cells (by simpa using h)
  rw [Nat.add_zero] at this
  rw [← this, ← Array.foldl_toList, Array.toList_zipIdx]
theorem valD_rel {frz : Bool} {v : AV} {u : Value} {x : D} (hH : RH I M h) (rv : RV I M v u) (hc : valD frz v h = some (x, h')) : ∃ fz, Ext M (M.frz fz) ∧ RH I (M.frz fz) h' ∧ DV (M.frz fz) x u := by
  cases frz with
  | true => exact toD_rel hH rv hc
  | false =>
    simp only [valD] at hc
    cases hl : cellsV v with
    | none => simp [hl] at hc
    | some l =>
      cases hr : allD l with
      | none => simp [hl, hr] at hc
      | some r =>
        simp only [hl, hr] at hc
        have r1 := rv.one (by rintro t rfl; simp [cellsV] at hl)
        have rd := allD_rel hr (r1.cells hl)
        split at hc
        · simp only [Option.some.injEq, Prod.mk.injEq] at hc
          obtain ⟨rfl, rfl⟩ := hc
          obtain ⟨cs, rfl, _⟩ := rv.agg rfl rfl
          have rd' : RDs M.w M.fz r cs.toList := rd
          exact ⟨M.fz, Ext.refl M, hH, by show RDc M.w M.fz (.ag r) cs.toList; simp only [RDc]; exact rd', rfl⟩
        · simp only [Option.some.injEq, Prod.mk.injEq] at hc
          obtain ⟨rfl, rfl⟩ := hc
          exact ⟨M.fz, Ext.refl M, hH, rv.data⟩
        · rename_i y hna hnd
          simp only [Option.some.injEq, Prod.mk.injEq] at hc
          obtain ⟨rfl, rfl⟩ := hc
          have hnag : nAgV v = true := by
            cases v with
            | ag l => exact (hna _ rfl).elim
            | d x => exact (hnd _ rfl).elim
            | u => simp [cellsV] at hl
            | tu => simp [cellsV] at hl
            | _ => rfl
          obtain ⟨u', e1, e2, e3⟩ := (rv.cellOf hnag).one hnag
          simp only [List.cons.injEq, and_true] at e1
          subst e1
          rw [e3] at rd
          simp only [RDs] at rd
          obtain ⟨v1, r2, e4, hn, hd, rfl⟩ := rd
          simp only [List.cons.injEq, and_true] at e4
          subst e4
          exact ⟨M.fz, Ext.refl M, hH, DV.of hn hd⟩
        · cases hc
/-- The parts of a slice are put in. -/
theorem fillD_rel {frz : Bool} {s len : Nat} : ∀ {ps0 : List (Nat × Operand)} {ps : List (Nat × Opd)} {l l' : List D} {M : Mem} {h h' : Heap} {cells : Array Value}, GOk G M → ER I M e a.tmps → RH I M h → partsS G ps0 = some ps → RRow M.w M.fz s l cells.toList → l.length = len → cells.size = len * s → fillD frz e s len ps l h = some (l', h') →
    ∃ fz cells', Ext M (M.frz fz) ∧ RH I (M.frz fz) h' ∧ Instr.fill (fun i => some (i * s, s)) cells (ps0.map fun p => (p.1, a.eval p.2)) = some cells' ∧ RRow M.w fz s l' cells'.toList ∧ l'.length = len ∧ cells'.size = len * s
  | [], ps, l, l', M, h, h', cells, hG, hE, hH, hp, hr, hl, hc, hf => by
    simp only [partsS, Option.some.injEq] at hp
    subst hp
    simp only [fillD, Option.some.injEq, Prod.mk.injEq] at hf
    obtain ⟨rfl, rfl⟩ := hf
    exact ⟨M.fz, cells, Ext.refl M, hH, rfl, hr, hl, hc⟩
  | (i, x) :: ps0, ps, l, l', M, h, h', cells, hG, hE, hH, hp, hr, hl, hc, hf => by
    simp only [partsS] at hp
    cases hx : opd G x with
    | none => simp [hx] at hp
    | some c =>
      cases hps : partsS G ps0 with
      | none => simp [hx, hps] at hp
      | some ps1 =>
        simp only [hx, hps, Option.some.injEq] at hp
        subst hp
        simp only [fillD] at hf
        cases hv : valD frz (c.ev e) h with
        | none => simp [hv] at hf
        | some p =>
          obtain ⟨d, h1⟩ := p
          simp only [hv] at hf
          cases hcond : (cellsD d).length == s && Nat.blt i len with
          | false => simp [hcond] at hf
          | true =>
            simp only [hcond] at hf
            simp only [Bool.and_eq_true, beq_iff_eq] at hcond
            have hi := blt_lt hcond.2
            obtain ⟨fz1, e1, hH1, d1⟩ := valD_rel hH (opd_rel hG hE hx) hv
            have hsz : (a.eval x).cells.toList.length = s := by rw [d1.1.len]; exact hcond.1
            have hsz' : (a.eval x).cells.size = s := by simpa using hsz
            have him : i * s + s ≤ len * s := by rw [← Nat.succ_mul]; exact Nat.mul_le_mul_right s hi
            have hstep := fill_step cells (i * s) (a.eval x).cells (by omega)
            have hr1 : RRow M.w fz1 s (l.set i d) ((a.eval x).cells.zipIdx.foldl (fun cs (c, j) => cs.setIfInBounds (i * s + j) c) cells).toList := by
              rw [hstep]
              exact (RRow.ext e1.e0 _ _ _ _ rfl hr).set (by omega) d1.1 hsz
            have hc1 : ((a.eval x).cells.zipIdx.foldl (fun cs (c, j) => cs.setIfInBounds (i * s + j) c) cells).size = len * s := by
              have := congrArg List.length hstep
              rw [ov_len (by rw [hsz]; simp; omega)] at this
              simpa [hc] using this
            obtain ⟨fz2, cells2, e2, hH2, g1, g2, g3, g4⟩ := fillD_rel (M := M.frz fz1) (fun g av hg => ⟨(hG g av hg).1, fun J => ((hG g av hg).2 J).ext e1 (Le.refl J)⟩) (fun t => (hE t).ext e1 (Le.refl I)) hH1 hps hr1 (by rw [List.length_set]; exact hl) hc1 hf
            refine ⟨fz2, cells2, e1.trans e2, hH2, ?_, g2, g3, g4⟩
            simp only [List.map_cons, Instr.fill, hsz', ne_eq, not_true_eq_false, decide_false, Bool.false_or]
            rw [if_neg (by simp; omega)]
            exact g1
theorem sim_bslice (hG : GOk G M) (hE : ER I M e a.tmps) (hH : RH I M h) {t el : TypeId} {frz : Bool} {len : Nat} {ps : Array (Nat × Operand)} {cps : List (Nat × Opd)} {zs : List D} (ho : o.op = .buildSlice t len ps) (ht : P.underlying t = some (.slice el)) (hz : zeroD P el = some zs) (hp : partsS G ps.toList = some cps) (hlen : len * zs.length ≤ 16777216) (hev : evOp (.bslice frz zs len cps) e h k = some (v, h')) : Sims P I M k o a v h' := by
  obtain ⟨i, z, hi, hz0, hs, h0, hb, hzs, hzr⟩ := zeroD_row hz
  have hzl : z.cells.toList.length = zs.length := by simpa using hzs
  simp only [evOp] at hev
  split at hev
  · rename_i l h1 hf
    simp only [Option.some.injEq, Prod.mk.injEq] at hev
    obtain ⟨rfl, rfl⟩ := hev
    have hr0 := repC_row (oneD_rel (hzr M.w M.fz) (by omega)) len
    rw [hzl] at hr0
    obtain ⟨fz, cells', e1, hH1, g1, g2, g3, g4⟩ := fillD_rel (cells := (repC z.cells.toList len).toArray) hG hE hH hp (by simpa using hr0) (by simp) (by simp only [List.size_toArray, repC_len, hzl]) hf
    have hx := push_ext hH1.wf hH1.lo (.cells cells' el) (len * zs.length)
    refine ⟨.slice (some ⟨M.w.heap.size, 0, none⟩) len len, (M.frz fz).push (.cells cells' el) (len * zs.length), I, .inl ?_, e1.trans hx, Le.refl I, fun x hx => .inl hx, hH1.push _ _ (by simp [g4]), RV.mk rfl ?_⟩
    · have c1 : ¬ (len * zs.length > 2 ^ 24) := by omega
      have hmap : (ps.map fun p => (p.1, a.eval p.2)).toList = ps.toList.map fun p => (p.1, a.eval p.2) := by simp
      simp only [execOp, ho]
      unfold Instr.buildSlice
      simp only [Sem.run_bind, run_underlying ht, Result.andThen_ok, run_sizeOf hi, hs, if_neg c1, hmap, Sem.run_pure]
      by_cases hl0 : len * zs.length = 0
      · have : len = 0 := by rcases Nat.mul_eq_zero.1 hl0 with hh | hh; exact hh; omega
        rw [if_pos hl0]
        simp only [Sem.run_bind, Sem.run_pure, Result.andThen_ok]
        have e9 : Array.map (fun x => (#[] : Array Value)[x % (#[] : Array Value).size]!) (Array.range (len * zs.length)) = (repC z.cells.toList len).toArray := by
          apply Array.toList_inj.1; rw [hl0, this]; simp [repC]
        rw [e9, g1]
        simp only [newRow, Sem.run_bind, run_newObj, Sem.run_pure, Result.andThen_ok]
        rfl
      · rw [if_neg hl0]
        simp only [Sem.run_bind, run_zeroValue hi hz0, Sem.run_pure, Result.andThen_ok]
        have e9 : Array.map (fun x => z.cells[x % z.cells.size]!) (Array.range (len * zs.length)) = (repC z.cells.toList len).toArray := by
          apply Array.toList_inj.1
          rw [← hzs, repC_eq (by omega)]
        rw [e9, g1]
        simp only [newRow, Sem.run_bind, run_newObj, Sem.run_pure, Result.andThen_ok]
        rfl
    · simp only [RVc]
      refine ⟨_, by rw [g3], fun hne => ⟨M.w.heap.size, 0, zs.length, rfl, by omega, ?_, ?_⟩⟩
      · rw [g3]; simp [Mem.push, Mem.frz]
      · rw [cellsOf_push, if_pos (show M.w.heap.size = (M.frz fz).w.heap.size from rfl)]
        simpa using RRow.ext hx.e0 _ _ _ _ rfl g2
  · cases hev
theorem sim_brow (hG : GOk G M) (hE : ER I M e a.tmps) (hH : RH I M h) (hk : I k = none) {t el : TypeId} {len : Nat} {ps : Array (Nat × Operand)} {cps : List (Nat × Opd)} {zs : List D} (ho : o.op = .buildSlice t len ps) (ht : P.underlying t = some (.slice el)) (hz : zeroD P el = some zs) (hp : partsS G ps.toList = some cps) (hlen : len * zs.length ≤ 16777216) (hev : evOp (.brow zs len cps) e h k = some (v, h')) : Sims P I M k o a v h' := by
  obtain ⟨i, z, hi, hz0, hs, h0, hb, hzs, hzr⟩ := zeroD_row hz
  have hzl : z.cells.toList.length = zs.length := by simpa using hzs
  simp only [evOp] at hev
  split at hev
  · rename_i l h1 hf
    simp only [Option.some.injEq, Prod.mk.injEq] at hev
    obtain ⟨rfl, rfl⟩ := hev
    have hr0 := repC_row (oneD_rel (hzr M.w M.fz) (by omega)) len
    rw [hzl] at hr0
    obtain ⟨fz, cells', e1, hH1, g1, g2, g3, g4⟩ := fillD_rel (cells := (repC z.cells.toList len).toArray) hG hE hH hp (by simpa using hr0) (by simp) (by simp only [List.size_toArray, repC_len, hzl]) hf
    have hx := push_ext hH1.wf hH1.lo (.cells cells' el) 0
    refine ⟨.slice (some ⟨M.w.heap.size, 0, none⟩) len len, (M.frz fz).push (.cells cells' el) 0, I.set k ⟨M.w.heap.size, 0, len, zs.length⟩, .inl ?_, e1.trans hx, Inj.set_le _ hk, Inj.set_only, hH1.new hk ?_ (by have : len ≤ len * zs.length := Nat.le_mul_of_pos_right len (by omega); show len ≤ _; omega), RV.mk rfl ?_⟩
    · have c1 : ¬ (len * zs.length > 2 ^ 24) := by omega
      have hmap : (ps.map fun p => (p.1, a.eval p.2)).toList = ps.toList.map fun p => (p.1, a.eval p.2) := by simp
      simp only [execOp, ho]
      unfold Instr.buildSlice
      simp only [Sem.run_bind, run_underlying ht, Result.andThen_ok, run_sizeOf hi, hs, if_neg c1, hmap, Sem.run_pure]
      by_cases hl0 : len * zs.length = 0
      · have : len = 0 := by rcases Nat.mul_eq_zero.1 hl0 with hh | hh; exact hh; omega
        rw [if_pos hl0]
        simp only [Sem.run_bind, Sem.run_pure, Result.andThen_ok]
        have e9 : Array.map (fun x => (#[] : Array Value)[x % (#[] : Array Value).size]!) (Array.range (len * zs.length)) = (repC z.cells.toList len).toArray := by
          apply Array.toList_inj.1; rw [hl0, this]; simp [repC]
        rw [e9, g1]
        simp only [newRow, Sem.run_bind, run_newObj, Sem.run_pure, Result.andThen_ok]
        rfl
      · rw [if_neg hl0]
        simp only [Sem.run_bind, run_zeroValue hi hz0, Sem.run_pure, Result.andThen_ok]
        have e9 : Array.map (fun x => z.cells[x % z.cells.size]!) (Array.range (len * zs.length)) = (repC z.cells.toList len).toArray := by
          apply Array.toList_inj.1
          rw [← hzs, repC_eq (by omega)]
        rw [e9, g1]
        simp only [newRow, Sem.run_bind, run_newObj, Sem.run_pure, Result.andThen_ok]
        rfl
    · simp only [RO]
      refine ⟨trivial, by omega, _, el, push_at, by simp [g4], by rw [g3]; exact Nat.le_refl _, by simpa using RRow.ext hx.e0 _ _ _ _ rfl g2, by simp [Mem.push]⟩
    · simp only [RVc]
      exact ⟨_, _, Inj.set_same, rfl, by simp, .inr (by simp [Mem.frz])⟩
  · cases hev
end
end Tm
/- Values that are built; strings and bytes. No statement of the seat is proved here. -/
namespace Tm
open Go
set_option linter.unusedVariables false
set_option linter.unusedSimpArgs false
set_option maxRecDepth 20000
section
variable {P : Program} {G : Nat → Option AV} {I : Inj} {M : Mem} {e : Env} {h h' : Heap} {a : Act} {k : Nat} {v : AV} {o : Oper}
theorem fillV_rel (hG : GOk G M) (hE : ER I M e a.tmps) {place : Nat → Option (Nat × Nat)} : ∀ {ps0 : List (Nat × Operand)} {ps : List (Nat × Nat × Opd)} {c c' : List AV} {cells : Array Value}, partsOf G place ps0 = some ps → RVs I M c cells.toList → fillV e ps c = some c' →
    ∃ cells', Instr.fill place cells (ps0.map fun p => (p.1, a.eval p.2)) = some cells' ∧ RVs I M c' cells'.toList
  | [], ps, c, c', cells, hp, hr, hf => by
    simp only [partsOf, Option.some.injEq] at hp
    subst hp
    simp only [fillV, Option.some.injEq] at hf
    subst hf
    exact ⟨cells, rfl, hr⟩
  | (i, x) :: ps0, ps, c, c', cells, hp, hr, hf => by
    simp only [partsOf] at hp
    cases hpl : place i with
    | none => simp [hpl] at hp
    | some p =>
      obtain ⟨off, s⟩ := p
      cases hx : opd G x with
      | none => simp [hpl, hx] at hp
      | some y =>
        cases hps : partsOf G place ps0 with
        | none => simp [hpl, hx, hps] at hp
        | some ps1 =>
          simp only [hpl, hx, hps, Option.some.injEq] at hp
          subst hp
          simp only [fillV] at hf
          cases hv : cellsV (y.ev e) with
          | none => simp [hv] at hf
          | some vs =>
            simp only [hv] at hf
            cases hcond : vs.length == s && Nat.ble (off + s) c.length with
            | false => simp [hcond] at hf
            | true =>
              simp only [hcond] at hf
              simp only [Bool.and_eq_true, beq_iff_eq] at hcond
              have hle := ble_le hcond.2
              have rx := opd_rel hG hE hx
              have rvs := (rx.one (by rintro t ht; rw [ht] at hv; simp [cellsV] at hv)).cells hv
              have hlen := rvs.len
              have hcl := hr.len
              have hs' : (a.eval x).cells.size = s := by rw [← hcond.1, ← hlen]; simp
              have hcs : cells.size = c.length := by rw [← hcl]; simp
              have hstep := fill_step cells off (a.eval x).cells (by omega)
              obtain ⟨cells', g1, g2⟩ := fillV_rel hG hE (cells := (a.eval x).cells.zipIdx.foldl (fun cs (c, j) => cs.setIfInBounds (off + j) c) cells) hps (by
                rw [hstep, putCells_eq _ _ _ (by omega)]
                exact hr.ov rvs) hf
              refine ⟨cells', ?_, g2⟩
              simp only [List.map_cons, Instr.fill, hpl, hs', ne_eq, not_true_eq_false, decide_false, Bool.false_or]
              rw [if_neg (by simp; omega)]
              exact g1
theorem run_fields {w : World} : ∀ {fs : List Field} {l : List (Nat × Nat)}, fieldsOf P fs = some l → (fs.mapM (fun f => do pure (f.offset, ← Go.sizeOf f.type) : Field → Sem (Nat × Nat))).run P w = .ok l w
  | [], l, h => by simp only [fieldsOf, Option.some.injEq] at h; subst h; simp
  | f :: fs, l, h => by
    simp only [fieldsOf] at h
    cases hs : szOf P f.type with
    | none => simp [hs] at h
    | some s =>
      cases hl : fieldsOf P fs with
      | none => simp [hs, hl] at h
      | some r =>
        simp only [hs, hl, Option.some.injEq] at h
        subst h
        obtain ⟨i, hi, rfl⟩ : ∃ i, P.info? f.type = some i ∧ i.size = s := by simpa [szOf] using hs
        rw [List.mapM_cons]
        simp only [Sem.run_bind, run_sizeOf hi, Result.andThen_ok, Sem.run_pure, run_fields hl]
theorem sim_build (hG : GOk G M) (hE : ER I M e a.tmps) (hH : RH I M h) {t : TypeId} {fs : Array Field} {ps : Array (Nat × Operand)} {cps : List (Nat × Nat × Opd)} {zs : List AV} {l : List (Nat × Nat)} (ho : o.op = .build t ps) (ht : P.underlying t = some (.struct fs)) (hz : zeroC P t = some zs) (hl : fieldsOf P fs.toList = some l) (hp : partsOf G (fun (i : Nat) => l[i]?) ps.toList = some cps) (hev : evOp (.build zs cps) e h k = some (v, h')) : Sims P I M k o a v h' := by
  obtain ⟨i, z, hi, hz0, hr⟩ := zeroC_spec hz
  simp only [evOp] at hev
  split at hev
  · rename_i c hf
    simp only [Option.some.injEq, Prod.mk.injEq] at hev
    obtain ⟨rfl, rfl⟩ := hev
    obtain ⟨cells', g1, g2⟩ := fillV_rel hG hE hp (hr I M) hf
    refine Sims.calm hH ?_ (RV1.agg g2).toRV
    have hmap : (ps.map fun p => (p.1, a.eval p.2)).toList = ps.toList.map fun p => (p.1, a.eval p.2) := by simp
    have hfs : (fs.mapM (fun f => do pure (f.offset, ← Go.sizeOf f.type) : Field → Sem (Nat × Nat))).run P M.w = .ok l.toArray M.w := by
      rw [Array.mapM_eq_mapM_toList]
      simp only [Sem.run_map, run_fields hl, Result.andThen_ok]
    have hpl : (fun (i : Nat) => l.toArray[i]?) = fun (i : Nat) => l[i]? := by funext i; simp
    simp only [execOp, ho]
    unfold Instr.build
    simp only [Sem.run_bind, run_zeroValue hi hz0, run_underlying ht, Result.andThen_ok, hfs, hmap, hpl, g1, Sem.run_pure]
  · cases hev
theorem sim_buildA (hG : GOk G M) (hE : ER I M e a.tmps) (hH : RH I M h) {t el : TypeId} {n s : Nat} {ps : Array (Nat × Operand)} {cps : List (Nat × Nat × Opd)} {zs : List AV} (ho : o.op = .build t ps) (ht : P.underlying t = some (.array n el)) (hz : zeroC P t = some zs) (hs : szOf P el = some s) (hp : partsOf G (fun i => some (i * s, s)) ps.toList = some cps) (hev : evOp (.build zs cps) e h k = some (v, h')) : Sims P I M k o a v h' := by
  obtain ⟨i, z, hi, hz0, hr⟩ := zeroC_spec hz
  obtain ⟨i', hi', rfl⟩ : ∃ i, P.info? el = some i ∧ i.size = s := by simpa [szOf] using hs
  simp only [evOp] at hev
  split at hev
  · rename_i c hf
    simp only [Option.some.injEq, Prod.mk.injEq] at hev
    obtain ⟨rfl, rfl⟩ := hev
    obtain ⟨cells', g1, g2⟩ := fillV_rel hG hE hp (hr I M) hf
    refine Sims.calm hH ?_ (RV1.agg g2).toRV
    have hmap : (ps.map fun p => (p.1, a.eval p.2)).toList = ps.toList.map fun p => (p.1, a.eval p.2) := by simp
    simp only [execOp, ho]
    unfold Instr.build
    simp only [Sem.run_bind, run_zeroValue hi hz0, run_underlying ht, Result.andThen_ok, run_sizeOf hi', hmap, g1, Sem.run_pure]
  · cases hev
/-! ### Strings and bytes -/
theorem bytesOf_rel {w : World} {fz : Nat → Nat} : ∀ {l : List D} {bs : List UInt8} {cs : List Value}, bytesOf l = some bs → RRow w fz 1 l cs → cs.take l.length = bs.map (fun b => Value.int .u8 (b.toNat : Int)) ∧ bs.length = l.length
  | [], bs, cs, h, r => by simp only [bytesOf, Option.some.injEq] at h; subst h; simp
  | x :: l, bs, cs, h, r => by
    cases x with
    | i kd n =>
      cases kd with
      | u8 =>
        simp only [bytesOf] at h
        cases hl : bytesOf l with
        | none => simp [hl] at h
        | some r1 =>
          simp only [hl] at h
          cases hc : decide (0 ≤ n) && decide (n < 256) with
          | false => simp [hc] at h
          | true =>
            simp only [hc, cond_true, Option.some.injEq] at h
            subst h
            simp only [Bool.and_eq_true, decide_eq_true_eq] at hc
            simp only [RRow, RDc] at r
            obtain ⟨h1, h2, h3⟩ := r
            obtain ⟨g1, g2⟩ := bytesOf_rel hl h3
            refine ⟨?_, by simp [g2]⟩
            have hb : ((n.toNat.toUInt8).toNat : Int) = n := by
              have : n.toNat < 256 := by omega
              simp [Nat.toUInt8, UInt8.toNat_ofNat]
              omega
            rw [show (D.i .u8 n :: l).length = 1 + l.length by simp; omega, List.take_add, h2, g1]
            simp only [List.map_cons, List.cons_append, List.nil_append, hb]
      | _ => simp [bytesOf] at h
    | _ => simp [bytesOf] at h
theorem push_all : ∀ (bs : List UInt8) (s : ByteArray), (bs.map fun b => (b.toNat : Int)).foldl (fun r n => r.push (UInt8.ofNat n.toNat)) s = ⟨s.data ++ bs.toArray⟩
  | [], s => by simp
  | b :: bs, s => by
    simp only [List.map_cons, List.foldl_cons]
    rw [push_all bs]
    have : UInt8.ofNat ((b.toNat : Int).toNat) = b := by simp
    rw [this]
    simp [ByteArray.push]
theorem sim_b2s (hG : GOk G M) (hE : ER I M e a.tmps) (hH : RH I M h) {s d el : TypeId} {x : Operand} {c : Opd} (ho : o.op = .convert s d x) (hs : P.underlying s = some (.slice el)) (hu : isU8 P el = true) (hd : P.underlying d = some .string) (hx : opd G x = some c) (hev : evOp (.b2s c) e h k = some (v, h')) : Sims P I M k o a v h' := by
  have rx := opd_rel hG hE hx
  have hel : P.underlying el = some (.int .u8) := by
    unfold isU8 at hu
    split at hu
    · assumption
    · cases hu
  simp only [evOp] at hev
  split at hev
  · rename_i l hl
    split at hev
    · rename_i bs hbs
      simp only [Option.some.injEq, Prod.mk.injEq] at hev
      obtain ⟨rfl, rfl⟩ := hev
      have hh : headSz l 1 = true := by
        cases l with
        | nil => rfl
        | cons y l => cases y <;> first | rfl | (simp [bytesOf] at hbs)
      obtain ⟨flat, hsrc⟩ := elems_src (P := P) hH rx hl hh
      obtain ⟨g1, g2⟩ := bytesOf_rel hbs hsrc.row
      have hf : flat = bs.map fun b => Value.int .u8 (b.toNat : Int) := by
        rw [← g1, List.take_of_length_le (by rw [hsrc.n]; simp)]
      have hsl : ∃ A n cp, a.eval x = .slice A n cp := by
        unfold elems at hl
        split at hl
        · rename_i hc; rw [hc] at rx
          have := rx.dcell rfl
          simp only [RDc] at this
          obtain ⟨A, cp, e1⟩ := this
          simp only [List.cons.injEq, and_true] at e1
          exact ⟨_, _, _, e1⟩
        · rename_i hc; rw [hc] at rx; obtain ⟨A, cp, e1, _⟩ := rx.slD; exact ⟨_, _, _, e1⟩
        · rename_i hc; rw [hc] at rx; obtain ⟨A, e1, _⟩ := rx.zlD; exact ⟨_, _, _, e1⟩
        · rename_i hc; rw [hc] at rx; obtain ⟨A, cp, e1, _⟩ := rx.bsD; exact ⟨_, _, _, e1⟩
        · rename_i hc; rw [hc] at rx; obtain ⟨q, A, _, e1, _⟩ := rx.slR; exact ⟨_, _, _, e1⟩
        · cases hl
      obtain ⟨A, n, cp, e1⟩ := hsl
      have hlen := hsrc.len
      rw [e1] at hlen
      have hn : n = l.length := by
        simp only [Builtin.lenOf, Sem.run_pure] at hlen
        injection hlen
      have hfirst := hsrc.first l.length M.w (Nat.le_refl _) rfl
      rw [e1, Nat.mul_one] at hfirst
      refine Sims.calm hH ?_ (RV.mkStr _)
      simp only [execOp, ho, e1]
      unfold convert
      simp only [Sem.run_bind, run_underlying hs, run_underlying hd, Result.andThen_ok, run_underlying hel]
      cases A with
      | none =>
        have : bs = [] := by
          simp only [Builtin.firstCells, Sem.run_pure] at hfirst
          injection hfirst with h1 _
          have h2 := congrArg Array.toList h1
          have hz : l.length = 0 := by
            have := congrArg List.length h2
            simp [hf, g2] at this
            omega
          exact List.length_eq_zero_iff.1 (by omega)
        subst this
        rfl
      | some A =>
        simp only [Builtin.firstCells, Nat.mul_one] at hfirst
        rw [← hn] at hfirst
        have := run_bytesToString (P := P) M.w A n cp (bs.map fun b => (b.toNat : Int)) (by
          rw [hfirst, hf, hn, List.take_of_length_le (by simp [g2])]
          simp)
        rw [push_all] at this
        rw [this]
        simp
    · cases hev
  · cases hev
end
end Tm
/- A string as bytes; all operations that are no calls. No statement of the seat is proved here. -/
namespace Tm
open Go
set_option linter.unusedVariables false
set_option linter.unusedSimpArgs false
set_option maxRecDepth 20000
section
variable {P : Program} {G : Nat → Option AV} {I : Inj} {M : Mem} {e : Env} {h h' : Heap} {a : Act} {k : Nat} {v : AV} {o : Oper}
theorem bytesD_row {w : World} {fz : Nat → Nat} : ∀ (l : List UInt8) (r : List Value), RRow w fz 1 (l.map fun b => D.i .u8 b.toNat) ((l.map fun b => Value.int .u8 (b.toNat : Int)) ++ r)
  | [], r => by simp [RRow]
  | b :: l, r => by
    simp only [List.map_cons, List.cons_append, RRow]
    exact ⟨by simp, by simp [RDc], by simpa using bytesD_row l r⟩
def byteCells (s : ByteArray) (cap : Nat) : Array Value := s.data.map (fun (b : UInt8) => Value.int .u8 (b.toNat : Int)) ++ Array.replicate (cap - s.size) (.int .u8 0)
def byteCap (w : World) (el : TypeId) (s : ByteArray) : Nat := Question.cut (.appendCap s.size 0 el) (w.tape w.drawn (.appendCap s.size 0 el))
theorem run_s2b {w : World} {el : TypeId} {s : ByteArray} : (Conv.stringToBytes el s).run P w = .ok (.slice (some ⟨w.heap.size, 0, none⟩) s.size (byteCap w el s))
    (({ w with drawn := w.drawn + 1, heap := w.heap.push (.cells (byteCells s (byteCap w el s)) el) } : World).freeze ⟨w.heap.size, (byteCells s (byteCap w el s)).size, none⟩ 1) := by
  unfold Conv.stringToBytes
  simp only [Sem.run_bind, run_choose, Question.forced, Bool.false_eq_true, if_false, Result.andThen_ok, newRow, run_newObj, Sem.run_pure, markStringish, run_shape]
  show (((match World.shape? ({ w with drawn := w.drawn + 1, heap := w.heap.push (.cells (byteCells s (byteCap w el s)) el) } : World) w.heap.size with
    | some (_, n) => freeze { block := w.heap.size, off := n } 1
    | _ => pure () : Sem Unit).run P ({ w with drawn := w.drawn + 1, heap := w.heap.push (.cells (byteCells s (byteCap w el s)) el) } : World)).andThen fun _ w' => Result.ok (Value.slice (some ⟨w.heap.size, 0, none⟩) s.size (byteCap w el s)) w') = _
  generalize byteCap w el s = cap
  generalize byteCells s cap = cells
  simp only [World.shape?, Array.getElem?_push_size, run_freeze, Result.andThen_ok]
theorem sim_s2b (hG : GOk G M) (hE : ER I M e a.tmps) (hH : RH I M h) {s d el : TypeId} {x : Operand} {c : Opd} (ho : o.op = .convert s d x) (hs : P.underlying s = some .string) (hu : isU8 P el = true) (hd : P.underlying d = some (.slice el)) (hx : opd G x = some c) (hev : evOp (.s2b c) e h k = some (v, h')) : Sims P I M k o a v h' := by
  have rx := opd_rel hG hE hx
  have hel : P.underlying el = some (.int .u8) := by
    unfold isU8 at hu
    split at hu
    · assumption
    · cases hu
  simp only [evOp] at hev
  split at hev
  · rename_i str hc
    rw [hc] at rx
    simp only [Option.some.injEq, Prod.mk.injEq] at hev
    obtain ⟨rfl, rfl⟩ := hev
    let cap := byteCap M.w el str
    have hcap : str.size ≤ cap := by simp only [cap, byteCap, Question.cut]; omega
    let cells : Array Value := byteCells str cap
    have hcl : cells.toList = (str.data.toList.map fun b => Value.int .u8 (b.toNat : Int)) ++ List.replicate (cap - str.size) (.int .u8 0) := by simp [cells, byteCells]
    have hd' := hH.drew
    have hH1 := hd'.push (.cells cells el) str.size (by show str.size ≤ cells.toList.length; rw [hcl]; simp)
    let M1 := M.drew.push (.cells cells el) str.size
    have hx1 : Ext M M1 := drew_ext.trans (push_ext hd'.wf hd'.lo _ _)
    let w2 := M1.w.freeze ⟨M.w.heap.size, cells.size, none⟩ 1
    have hat : M1.w.heap[M.w.heap.size]? = some (.cells cells el (0, 0)) := push_at
    have hh : ∀ b, w2.heap[b]? = if M.w.heap.size = b then some (.cells cells el (cells.size, cells.size + 1)) else M1.w.heap[b]? := by
      intro b
      show ((M1.w.freeze ⟨M.w.heap.size, cells.size, none⟩ 1).heap)[b]? = _
      unfold World.freeze
      simp only [Nat.one_ne_zero, if_false, Array.getElem?_modify]
      by_cases hb : M.w.heap.size = b
      · subst hb
        rw [if_pos rfl, if_pos rfl, hat]
        simp
      · rw [if_neg hb, if_neg hb]
    have hcells : ∀ b, cellsOf w2 b = cellsOf M1.w b := by
      intro b
      unfold cellsOf
      rw [hh]
      by_cases hb : M.w.heap.size = b
      · subst hb; rw [if_pos rfl, hat]
      · rw [if_neg hb]
    have hlo : M.lo ≤ M.w.heap.size := hH.lo
    have hx2 : Ext M1 ⟨w2, M1.fz, M1.lo⟩ := ⟨rfl, by simp [w2, World.freeze], by simp [w2, World.freeze], by simp [w2, World.freeze], by simp [w2, World.freeze], fun b hb => by
      show w2.heap[b]? = _
      rw [hh, if_neg]
      have : b < M.lo := hb
      omega, fun _ => Nat.le_refl _, fun _ _ => rfl, fun b => by show (cellsOf w2 b).take _ = _; rw [hcells], fun b o h1 h2 => by
      show w2.heap[b]? = _
      rw [hh]
      by_cases hb : M.w.heap.size = b
      · subst hb; rw [hat] at h1; cases h1; simp [isRec] at h2
      · rw [if_neg hb]; exact h1⟩
    have hH2 : RH I ⟨w2, M1.fz, M1.lo⟩ h := hH1.keep hx2 (fun n ob q hn hq => ⟨by
      show w2.heap[q.b]? = _
      rw [hh, if_neg]
      have := (hH.ob n ob q hn hq).2.1
      omega, rfl⟩) (fun b => by show M1.fz b ≤ (cellsOf w2 b).length; rw [hcells]; exact hH1.wf b)
    refine ⟨.slice (some ⟨M.w.heap.size, 0, none⟩) str.size cap, ⟨w2, M1.fz, M1.lo⟩, I, .inl ?_, hx1.trans hx2, Le.refl I, fun x hx => .inl hx, hH2, ?_⟩
    · have hsh : M1.w.shape? M.w.heap.size = some (el, cells.size) := by simp [World.shape?, hat]
      simp only [execOp, ho, rx.str]
      unfold convert
      simp only [Sem.run_bind, run_underlying hs, run_underlying hd, Result.andThen_ok, run_underlying hel]
      rw [run_s2b]
      rfl
    · have hlen : (bytesD str).length = str.size := by simp [bytesD]
      cases hb : bytesD str with
      | nil =>
        rw [hb] at hlen
        refine RV.ofData rfl ?_
        simp only [cutD, RDc]
        exact ⟨_, _, by rw [← hlen]; rfl⟩
      | cons y l =>
        refine RV.ofData rfl ?_
        simp only [cutD, RDc]
        rw [← hb]
        refine ⟨_, _, by rw [hlen], by omega, fun h0 => by rw [hb] at h0; simp at h0, fun hne => ⟨M.w.heap.size, 0, 1, rfl, by omega, ?_, ?_⟩⟩
        · rw [hlen]; simp [M1, Mem.push, Mem.drew]
        · show RRow w2 M1.fz 1 (bytesD str) ((cellsOf w2 M.w.heap.size).drop 0)
          rw [hcells, cellsOf_at hat, hcl, List.drop_zero]
          exact bytesD_row _ _
  · cases hev
end
end Tm
/- All operations that are no calls. No statement of the seat is proved here. -/
namespace Tm
open Go
set_option linter.unusedVariables false
set_option linter.unusedSimpArgs false
set_option maxRecDepth 20000
section
variable {P : Program} {G : Nat → Option AV} {I : Inj} {M : Mem} {e : Env} {h h' : Heap} {a : Act} {k : Nat} {v : AV} {o : Oper}
theorem sim_evOp {frz : Bool} {c : COp} (hG : GOk G M) (hE : ER I M e a.tmps) (hH : RH I M h) (hk : I k = none) (hc : compOp P G frz o.op = some c) (hev : evOp c e h k = some (v, h')) : Sims P I M k o a v h' := by
  cases ho : o.op with
  | move x =>
    simp only [ho, compOp, Option.map_eq_some_iff] at hc
    obtain ⟨y, hy, rfl⟩ := hc
    exact sim_mv hG hE hH (.inl ho) hy hev
  | assign x =>
    simp only [ho, compOp, Option.map_eq_some_iff] at hc
    obtain ⟨y, hy, rfl⟩ := hc
    exact sim_mv hG hE hH (.inr ho) hy hev
  | pick x y z =>
    simp only [ho, compOp] at hc
    split at hc
    · rename_i h1 h2 h3
      simp only [Option.some.injEq] at hc; subst hc
      exact sim_pick hG hE hH ho h1 h2 h3 hev
    · cases hc
  | alloc t =>
    simp only [ho, compOp, Option.map_eq_some_iff] at hc
    obtain ⟨y, hy, rfl⟩ := hc
    exact sim_alloc hH hk ho hy hev
  | box t x =>
    simp only [ho, compOp, Option.map_eq_some_iff] at hc
    obtain ⟨y, hy, rfl⟩ := hc
    exact sim_box hG hE hH hk ho hy hev
  | build t ps =>
    simp only [ho, compOp] at hc
    split at hc
    · rename_i zs fs h1 h2
      split at hc
      · rename_i l hl
        simp only [Option.map_eq_some_iff] at hc
        obtain ⟨y, hy, rfl⟩ := hc
        exact sim_build hG hE hH ho h2 h1 hl hy hev
      · cases hc
    · rename_i zs n el h1 h2
      split at hc
      · rename_i s hs
        simp only [Option.map_eq_some_iff] at hc
        obtain ⟨y, hy, rfl⟩ := hc
        exact sim_buildA hG hE hH ho h2 h1 hs hy hev
      · cases hc
    · cases hc
  | buildSlice t len ps =>
    simp only [ho, compOp] at hc
    split at hc
    · rename_i el hel
      split at hc
      · rename_i zs l h1 h2
        cases hb : Nat.ble (len * zs.length) 16777216 with
        | false => simp [hb] at hc
        | true =>
          simp only [hb, cond_true, Option.some.injEq] at hc; subst hc
          have : P.underlying t = some (.slice el) := by
            unfold slElem at hel
            split at hel
            · simp only [Option.some.injEq] at hel; subst hel; assumption
            · cases hel
          exact sim_bslice hG hE hH ho this h1 h2 (ble_le hb) hev
      · cases hc
    · cases hc
  | load t x =>
    simp only [ho, compOp] at hc
    split at hc
    · rename_i n y h1 h2
      simp only [Option.some.injEq] at hc; subst hc
      exact sim_load hG hE hH ho h1 h2 hev
    · cases hc
  | store t x y =>
    simp only [ho, compOp] at hc
    split at hc
    · rename_i n cx cy h1 h2 h3
      simp only [Option.some.injEq] at hc; subst hc
      exact sim_store hG hE hH ho h1 h2 h3 hev
    · cases hc
  | nilCheck x =>
    simp only [ho, compOp, Option.map_eq_some_iff] at hc
    obtain ⟨y, hy, rfl⟩ := hc
    exact sim_nilc hG hE hH ho hy hev
  | binOp op t x y ty =>
    simp only [ho, compOp] at hc
    split at hc
    · rename_i cx cy h1 h2
      simp only [Option.some.injEq] at hc; subst hc
      exact sim_bin hG hE hH ho h1 h2 hev
    · cases hc
  | unOp op t x =>
    simp only [ho, compOp, Option.map_eq_some_iff] at hc
    obtain ⟨y, hy, rfl⟩ := hc
    exact sim_un hG hE hH ho hy hev
  | convert s d x =>
    simp only [ho, compOp] at hc
    split at hc
    · rename_i k1 k2 h1 h2
      simp only [Option.map_eq_some_iff] at hc
      obtain ⟨y, hy, rfl⟩ := hc
      exact sim_conv hG hE hH ho h1 h2 hy hev
    · rename_i h1 h2
      simp only [Option.map_eq_some_iff] at hc
      obtain ⟨y, hy, rfl⟩ := hc
      exact sim_cvs hG hE hH ho h1 h2 hy hev
    · rename_i el h1 h2
      cases hu : isU8 P el with
      | false => simp [hu] at hc
      | true =>
        simp only [hu, cond_true, Option.map_eq_some_iff] at hc
        obtain ⟨y, hy, rfl⟩ := hc
        exact sim_s2b hG hE hH ho h1 hu h2 hy hev
    · rename_i el h1 h2
      cases hu : isU8 P el with
      | false => simp [hu] at hc
      | true =>
        simp only [hu, cond_true, Option.map_eq_some_iff] at hc
        obtain ⟨y, hy, rfl⟩ := hc
        exact sim_b2s hG hE hH ho h1 hu h2 hy hev
    · cases hc
  | makeFunc fn x y =>
    cases fn with
    | func g =>
      simp only [ho, compOp] at hc
      split at hc
      · rename_i cx cy h1 h2
        simp only [Option.some.injEq] at hc; subst hc
        exact sim_mkf hG hE hH ho h1 h2 hev
      · cases hc
    | _ => simp [ho, compOp] at hc
  | makeMap t r =>
    cases r with
    | none =>
      simp only [ho, compOp, Option.some.injEq] at hc; subst hc
      exact sim_mkmap hH hk ho hev
    | some r => simp [ho, compOp] at hc
  | makeSlice t x y =>
    simp only [ho, compOp] at hc
    split at hc
    · rename_i el hel
      split at hc
      · rename_i zs cx cy h1 h2 h3
        simp only [Option.some.injEq] at hc; subst hc
        have : P.underlying t = some (.slice el) := by
          unfold slElem at hel
          split at hel
          · simp only [Option.some.injEq] at hel; subst hel; assumption
          · cases hel
        exact sim_mkslice hG hE hH hk ho this h1 h2 h3 hev
      · cases hc
    · cases hc
  | slice t x lo hi mx =>
    simp only [ho, compOp] at hc
    split at hc
    · rename_i hu
      split at hc
      · rename_i cx clo chi h1 h2 h3
        simp only [Option.some.injEq] at hc; subst hc
        exact sim_slS hG hE hH ho hu h1 h2 h3 hev
      · cases hc
    · rename_i el hu
      split at hc
      · rename_i cx clo chi cmx zs h1 h2 h3 h4 h5
        cases mx with
        | none =>
          simp only [oopd, Option.some.injEq] at h4
          subst h4
          have hc' : some (COp.sl zs.length cx clo chi none) = some c := by cases chi <;> simpa using hc
          simp only [Option.some.injEq] at hc'
          subst hc'
          exact sim_sl hG hE hH ho hu h5 h1 h2 h3 hev
        | some mx =>
          simp only [oopd, Option.map_eq_some_iff] at h4
          obtain ⟨cm, hcm, rfl⟩ := h4
          cases hi with
          | none =>
            simp only [oopd, Option.some.injEq] at h3
            subst h3
            simp at hc
          | some hi =>
            cases chi with
            | none => simp [oopd] at h3
            | some chi =>
              simp only [Option.some.injEq] at hc
              subst hc
              exact sim_sl3 hG hE hH ho hu h5 h1 h2 h3 hcm hev
      · cases hc
    · cases hc
  | fieldAddr t x f =>
    simp only [ho, compOp] at hc
    split at hc
    · rename_i fs hu
      split at hc
      · rename_i fd cx h1 h2
        split at hc
        · rename_i s hs
          cases hb : Nat.blt 0 s with
          | false => simp [hb] at hc
          | true =>
            simp only [hb, cond_true, Option.some.injEq] at hc; subst hc
            exact sim_fld hG hE hH ho hu h1 hs (blt_lt hb) h2 hev
        · cases hc
      · cases hc
    · cases hc
  | indexAddr t x i =>
    simp only [ho, compOp] at hc
    split at hc
    · rename_i el hu
      split at hc
      · rename_i zs cx cy h1 h2 h3
        simp only [Option.some.injEq] at hc; subst hc
        exact sim_idxa hG hE hH ho hu h1 h2 h3 hev
      · cases hc
    · rename_i n el hu
      split at hc
      · rename_i s cx cy h1 h2 h3
        simp only [Option.some.injEq] at hc; subst hc
        exact sim_idxA hG hE hH ho hu h1 h2 h3 hev
      · cases hc
    · cases hc
  | index t x i =>
    simp only [ho, compOp] at hc
    split at hc
    · rename_i hu
      split at hc
      · rename_i cx cy h1 h2
        simp only [Option.some.injEq] at hc; subst hc
        exact sim_idx hG hE hH ho hu h1 h2 hev
      · cases hc
    · rename_i n el hu
      split at hc
      · rename_i s g cx cy h1 h2 h3 h4
        simp only [Option.some.injEq] at hc; subst hc
        exact sim_idxV hG hE hH ho hu h1 h2 h3 h4 hev
      · cases hc
    · cases hc
  | lookup t x y ok =>
    simp only [ho, compOp] at hc
    split at hc
    · rename_i kt el hu
      split at hc
      · rename_i z cx cy s h1 h2 h3 h4
        simp only [Option.some.injEq] at hc; subst hc
        exact sim_look hG hE hH ho hu h1 h4 h2 h3 hev
      · cases hc
    · cases hc
  | mapUpdate t x y z =>
    simp only [ho, compOp] at hc
    split at hc
    · rename_i kt el hu
      split at hc
      · rename_i cx cy cz s h1 h2 h3 h4
        simp only [Option.some.injEq] at hc; subst hc
        exact sim_mupd hG hE hH ho hu h4 h1 h2 h3 hev
      · cases hc
    · cases hc
  | extract x i =>
    simp only [ho, compOp, Option.map_eq_some_iff] at hc
    obtain ⟨y, hy, rfl⟩ := hc
    exact sim_ext hG hE hH ho hy hev
  | call cl =>
    obtain ⟨callee, args, ts⟩ := cl
    simp only [ho, compOp] at hc
    have slEl : ∀ {t el : TypeId}, slElem P t = some el → P.underlying t = some (.slice el) := by
      intro t el hel
      unfold slElem at hel
      split at hel
      · simp only [Option.some.injEq] at hel; subst hel; assumption
      · cases hel
    cases callee with
    | value f =>
      exfalso
      cases f with
      | func g =>
        simp only [Option.map_eq_some_iff] at hc
        obtain ⟨y, hy, rfl⟩ := hc
        simp [evOp] at hev
      | _ =>
        simp only at hc
        split at hc
        · simp only [Option.some.injEq] at hc; subst hc
          simp [evOp] at hev
        · cases hc
    | invoke r m => simp at hc
    | builtin b =>
      cases b with
      | append =>
        simp only at hc
        split at hc
        · rename_i t t' x y h1 h2 h3
          split at hc
          · cases hc
          · rename_i el d' hnd hel hd'
            split at hc
            · rename_i zs cx cy h4 h5 h6
              simp only [Option.some.injEq] at hc; subst hc
              exact sim_app hG hE hH hk ho h3 h1 h2 (slEl hel) hd' (fun kd hkd => hnd kd hkd) h4 h5 h6 hev
            · cases hc
          · cases hc
        · cases hc
      | len =>
        simp only at hc
        split at hc
        · rename_i t x h1 h3
          split at hc
          · rename_i hu
            simp only [Option.map_eq_some_iff] at hc
            obtain ⟨y, hy, rfl⟩ := hc
            exact sim_len (str := true) hG hE hH ho h3 h1 hu hy hev
          · rename_i el hu
            simp only [Option.map_eq_some_iff] at hc
            obtain ⟨y, hy, rfl⟩ := hc
            exact sim_len (str := false) hG hE hH ho h3 h1 ⟨el, hu⟩ hy hev
          · cases hc
        · cases hc
      | copy =>
        simp only at hc
        split at hc
        · rename_i t x y h1 h3
          split at hc
          · rename_i el hel
            split at hc
            · rename_i zs cx cy h4 h5 h6
              simp only [Option.some.injEq] at hc; subst hc
              exact sim_copy hG hE hH ho h3 h1 (slEl hel) h4 h5 h6 hev
            · cases hc
          · cases hc
        · cases hc
      | clear =>
        simp only at hc
        split at hc
        · rename_i t x h1 h3
          split at hc
          · rename_i el hel
            split at hc
            · rename_i zs cx h4 h5
              simp only [Option.some.injEq] at hc; subst hc
              exact sim_clear hG hE hH ho h3 h1 (slEl hel) h4 h5 hev
            · cases hc
          · cases hc
        · cases hc
      | delete =>
        simp only at hc
        split at hc
        · rename_i t x y h1 h3
          split at hc
          · rename_i kt el hu
            split at hc
            · rename_i cx cy s h4 h5 h6
              simp only [Option.some.injEq] at hc; subst hc
              exact sim_del hG hE hH ho h3 h1 hu h6 h4 h5 hev
            · cases hc
          · cases hc
        · cases hc
      | max =>
        simp only at hc
        split at hc
        · rename_i x y h3
          split at hc
          · rename_i cx cy h4 h5
            simp only [Option.some.injEq] at hc; subst hc
            exact sim_mm (mx := true) hG hE hH ho h3 h4 h5 hev
          · cases hc
        · cases hc
      | min =>
        simp only at hc
        split at hc
        · rename_i x y h3
          split at hc
          · rename_i cx cy h4 h5
            simp only [Option.some.injEq] at hc; subst hc
            exact sim_mm (mx := false) hG hE hH ho h3 h4 h5 hev
          · cases hc
        · cases hc
      | _ => simp at hc
  | _ => simp [ho, compOp] at hc
end
end Tm
