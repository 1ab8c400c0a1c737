/- The abstract machine on trees, part C. No statement of the seat is proved here. -/
import Derived.Laws.Cells
import Derived.Test.YtmciehdmmnkdhaaGreatDoorTmB
set_option linter.unusedVariables false
set_option linter.unusedSimpArgs false
set_option linter.constructorNameAsVariable false
set_option linter.unusedSectionVars false
set_option linter.deprecated false
set_option linter.unnecessarySimpa false
/- More of them: lengths, parts of slices and strings, arrays. No statement of the seat is proved here. -/
namespace Tm
open Go
set_option linter.unusedVariables false
set_option linter.unusedSimpArgs false
section
variable {P : Program} {G : Nat → Option AV} {I : Inj} {M : Mem} {e : Env} {h h' : Heap} {a : Act} {k : Nat} {v : AV} {o : Oper}
theorem run_bound {w : World} {kd : IntKind} {n y : Nat} {code : BoundsCode} (hn : n ≤ y) : (Instr.sliceBound (.int kd n) y code).run P w = .ok n w := by
  have : ((0 : Int) ≤ (n : Int) ∧ (n : Int) ≤ (y : Int)) := ⟨by omega, by omega⟩
  simp only [Instr.sliceBound, asIntOf, Sem.run_bind, Sem.run_pure, Result.andThen_ok, Sem.run_ite, if_pos this, Int.toNat_natCast]
/-- A bound that is given, or the default. -/
def Bd (x : Option Value) (d n : Nat) : Prop := match x with
  | none => n = d
  | some v => ∃ kd, v = .int kd n
theorem bnd_rel (hG : GOk G M) (hE : ER I M e a.tmps) {x : Option Operand} {c : Option Opd} {d top n : Nat} (hx : oopd G x = some c) (hb : bnd e c d top = some n) : Bd (x.map a.eval) d n ∧ (n ≤ top ∨ (x = none ∧ n = d)) := by
  cases x with
  | none =>
    simp only [oopd, Option.some.injEq] at hx
    subst hx
    simp only [bnd, Option.some.injEq] at hb
    exact ⟨hb.symm, .inr ⟨rfl, hb.symm⟩⟩
  | some x =>
    simp only [oopd, Option.map_eq_some_iff] at hx
    obtain ⟨y, hy, rfl⟩ := hx
    simp only [bnd] at hb
    split at hb
    · rename_i m hm
      cases ht : Nat.ble m top with
      | false => simp [ht] at hb
      | true =>
        simp only [ht, cond_true, Option.some.injEq] at hb
        subst hb
        exact ⟨natA_rel (opd_rel hG hE hy) hm, .inl (ble_le ht)⟩
    · cases hb
theorem run_bounds {w : World} {sl : Bool} {len cap b k : Nat} {lo hi : Option Value} (hhi : Bd hi len b) (hlo : Bd lo 0 k) (hb : b ≤ cap) (hk : k ≤ b) : (Instr.sliceBounds sl len cap lo hi none).run P w = .ok (k, b, cap) w := by
  unfold Instr.sliceBounds
  simp only [Sem.run_bind, Sem.run_pure, Result.andThen_ok]
  cases hi with
  | none =>
    simp only [Bd] at hhi; subst hhi
    cases lo with
    | none => simp only [Bd] at hlo; subst hlo; rfl
    | some u => obtain ⟨kd, rfl⟩ := hlo; simp only [Sem.run_bind, Sem.run_pure, Result.andThen_ok, run_bound hk]
  | some u =>
    obtain ⟨kd, rfl⟩ := hhi
    cases lo with
    | none => simp only [Bd] at hlo; subst hlo; simp only [Sem.run_bind, Sem.run_pure, Result.andThen_ok, run_bound hb]
    | some u => obtain ⟨kd, rfl⟩ := hlo; simp only [Sem.run_bind, Sem.run_pure, Result.andThen_ok, run_bound hb, run_bound hk]
theorem run_bounds3 {w : World} {sl : Bool} {len cap b k c : Nat} {lo : Option Value} {hi mx : Value} {kd kd' : IntKind} (hhi : hi = .int kd b) (hmx : mx = .int kd' c) (hlo : Bd lo 0 k) (hc : c ≤ cap) (hb : b ≤ c) (hk : k ≤ b) : (Instr.sliceBounds sl len cap lo (some hi) (some mx)).run P w = .ok (k, b, c) w := by
  subst hhi hmx
  unfold Instr.sliceBounds
  cases lo with
  | none => simp only [Bd] at hlo; subst hlo; simp only [Sem.run_bind, Sem.run_pure, Result.andThen_ok, run_bound hb, run_bound hc]
  | some u => obtain ⟨kd, rfl⟩ := hlo; simp only [Sem.run_bind, Sem.run_pure, Result.andThen_ok, run_bound hb, run_bound hk, run_bound hc]
theorem sim_slS (hG : GOk G M) (hE : ER I M e a.tmps) (hH : RH I M h) {x : Operand} {lo hi : Option Operand} {c : Opd} {clo chi : Option Opd} {t : TypeId} (ho : o.op = .slice t x lo hi none) (ht : P.underlying t = some .string) (hx : opd G x = some c) (hlo : oopd G lo = some clo) (hhi : oopd G hi = some chi) (hev : evOp (.slS c clo chi) e h k = some (v, h')) : Sims P I M k o a v h' := by
  have rx := opd_rel hG hE hx
  simp only [evOp] at hev
  split at hev
  · rename_i s hc
    rw [hc] at rx
    split at hev
    · rename_i b hb
      split at hev
      · rename_i n hn
        simp only [Option.some.injEq, Prod.mk.injEq] at hev
        obtain ⟨rfl, rfl⟩ := hev
        obtain ⟨h1, h2⟩ := bnd_rel hG hE hhi hb
        obtain ⟨h3, h4⟩ := bnd_rel hG hE hlo hn
        refine Sims.calm hH ?_ (RV.mkStr _)
        simp only [execOp, ho, rx.str, Instr.sliceAt, Instr.slice, Sem.run_bind, run_underlying ht, Result.andThen_ok, Option.map_none, Option.isSome_none, Bool.false_eq_true, if_false, Sem.run_ite, run_bounds h1 h3 (by rcases h2 with h2 | ⟨_, h2⟩ <;> omega) (by rcases h4 with h4 | ⟨_, h4⟩ <;> omega), Sem.run_pure]
      · cases hev
    · cases hev
  · cases hev
theorem sim_len {str : Bool} (hG : GOk G M) (hE : ER I M e a.tmps) (hH : RH I M h) {x : Operand} {c : Opd} {t : TypeId} {as : Array Operand} {ts : Array TypeId} (ho : o.op = .call { callee := .builtin .len, args := as, argTypes := ts }) (has : as.toList = [x]) (hts : ts[0]? = some t) (ht : match str with | true => P.underlying t = some .string | false => ∃ el, P.underlying t = some (.slice el)) (hx : opd G x = some c) (hev : evOp (.len str c) e h k = some (v, h')) : Sims P I M k o a v h' := by
  have rx := opd_rel hG hE hx
  have has' : as = #[x] := by rw [← Array.toArray_toList (xs := as), has]
  subst has'
  cases str with
  | true =>
    simp only [evOp] at hev
    split at hev
    · rename_i s hc
      rw [hc] at rx
      simp only [Option.some.injEq, Prod.mk.injEq] at hev
      obtain ⟨rfl, rfl⟩ := hev
      refine Sims.calm hH ?_ (RV.mkInt _ _)
      simp [execOp, ho, resolve, invoke, Go.builtin, Builtin.len_, hts, rx.str, run_underlying ht, goInt]
    · cases hev
  | false =>
    have sl : ∀ A n c, a.eval x = .slice A n c → Sims P I M k o a (.d (.i .i64 (.ofNat n))) h := by
      intro A n c hs
      obtain ⟨el, hu⟩ := ht
      refine Sims.calm hH ?_ (RV.mkInt _ _)
      simp [execOp, ho, resolve, invoke, Go.builtin, Builtin.len_, hts, hs, run_underlying hu, goInt]
    simp only [evOp] at hev
    split at hev
    · rename_i l hc
      rw [hc] at rx
      simp only [Option.some.injEq, Prod.mk.injEq] at hev
      obtain ⟨rfl, rfl⟩ := hev
      obtain ⟨A, c, e1, _⟩ := rx.slD
      exact sl A _ c e1
    · rename_i hc
      rw [hc] at rx
      simp only [Option.some.injEq, Prod.mk.injEq] at hev
      obtain ⟨rfl, rfl⟩ := hev
      have := rx.dcell rfl
      simp only [RDc] at this
      obtain ⟨A, c, e1⟩ := this
      simp only [List.cons.injEq, and_true] at e1
      exact sl A _ c e1
    · rename_i l hc
      rw [hc] at rx
      simp only [Option.some.injEq, Prod.mk.injEq] at hev
      obtain ⟨rfl, rfl⟩ := hev
      obtain ⟨A, e1, _⟩ := rx.zlD
      exact sl A _ _ e1
    · rename_i l hc
      rw [hc] at rx
      simp only [Option.some.injEq, Prod.mk.injEq] at hev
      obtain ⟨rfl, rfl⟩ := hev
      obtain ⟨A, c, e1, _⟩ := rx.bsD
      exact sl A _ c e1
    · rename_i l hc
      rw [hc] at rx
      simp only [Option.some.injEq, Prod.mk.injEq] at hev
      obtain ⟨rfl, rfl⟩ := hev
      obtain ⟨q, A, _, e1, _⟩ := rx.slR
      exact sl A _ _ e1
    · cases hev
theorem sim_mm {mx : Bool} (hG : GOk G M) (hE : ER I M e a.tmps) (hH : RH I M h) {x y : Operand} {cx cy : Opd} {as : Array Operand} {ts : Array TypeId} (ho : o.op = .call { callee := .builtin (match mx with | true => .max | false => .min), args := as, argTypes := ts }) (has : as.toList = [x, y]) (hx : opd G x = some cx) (hy : opd G y = some cy) (hev : evOp (match mx with | true => .max cx cy | false => .min cx cy) e h k = some (v, h')) : Sims P I M k o a v h' := by
  have rx := opd_rel hG hE hx
  have ry := opd_rel hG hE hy
  have has' : as = #[x, y] := by rw [← Array.toArray_toList (xs := as), has]
  subst has'
  cases mx with
  | true =>
    simp only [evOp] at hev
    split at hev
    · rename_i hc hd
      rw [hc] at rx
      rw [hd] at ry
      simp only [Option.some.injEq, Prod.mk.injEq] at hev
      obtain ⟨rfl, rfl⟩ := hev
      refine Sims.calm hH ?_ (RV.mkInt _ _)
      simp only [execOp, ho, resolve, invoke, Go.builtin, Builtin.max_, Sem.run_bind, Sem.run_pure, Result.andThen_ok, List.map_toArray, List.map_cons, List.map_nil, rx.int, ry.int, List.foldlM, Builtin.max2]
      rw [Bool.cond_decide]
    · cases hev
  | false =>
    simp only [evOp] at hev
    split at hev
    · rename_i hc hd
      rw [hc] at rx
      rw [hd] at ry
      simp only [Option.some.injEq, Prod.mk.injEq] at hev
      obtain ⟨rfl, rfl⟩ := hev
      refine Sims.calm hH ?_ (RV.mkInt _ _)
      simp only [execOp, ho, resolve, invoke, Go.builtin, Builtin.min_, Sem.run_bind, Sem.run_pure, Result.andThen_ok, List.map_toArray, List.map_cons, List.map_nil, rx.int, ry.int, List.foldlM, Builtin.min2]
      rw [Bool.cond_decide]
    · cases hev
theorem run_indexA {w : World} {t el : TypeId} {i : TypeInfo} {n : Nat} (ht : P.underlying t = some (.array n el)) (hi : P.info? el = some i) {b x : Nat} {kd : IntKind} {j : Nat} (hj : j < n) : (Instr.indexAt t (.pointer (some ⟨b, x, none⟩)) (.int kd j)).run P w = .ok (.pointer (some ⟨b, x + j * i.size, none⟩)) w := by
  have h1 : ((0 : Int) ≤ (j : Int) ∧ (j : Int) < (n : Int)) := ⟨by omega, by omega⟩
  simp only [Instr.indexAt, asIntOf, Sem.run_bind, Sem.run_pure, Result.andThen_ok, run_underlying ht, Instr.sureAddr, Sem.run_ite, if_pos h1, run_sizeOf hi, add_none, Int.toNat_natCast]
theorem sim_idxA (hG : GOk G M) (hE : ER I M e a.tmps) (hH : RH I M h) {x y : Operand} {cx cy : Opd} {t el : TypeId} {n s : Nat} (ho : o.op = .indexAddr t x y) (ht : P.underlying t = some (.array n el)) (hz : szOf P el = some s) (hx : opd G x = some cx) (hy : opd G y = some cy) (hev : evOp (.idxA n s cx cy) e h k = some (v, h')) : Sims P I M k o a v h' := by
  have rx := opd_rel hG hE hx
  have ry := opd_rel hG hE hy
  obtain ⟨i, hi, rfl⟩ : ∃ i, P.info? el = some i ∧ i.size = s := by simpa [szOf] using hz
  simp only [evOp] at hev
  split at hev
  · rename_i j hj
    obtain ⟨kd, hyv⟩ := natA_rel ry hj
    cases hjn : Nat.blt j n with
    | false => simp [hjn] at hev
    | true =>
      simp only [hjn, cond_true] at hev
      have hjn' := blt_lt hjn
      split at hev
      · rename_i n0 o0 hc
        rw [hc] at rx
        simp only [Option.some.injEq, Prod.mk.injEq] at hev
        obtain ⟨rfl, rfl⟩ := hev
        obtain ⟨q, hq, e1⟩ := rx.ptr
        refine Sims.calm (v' := .pointer (some ⟨q.b, q.o + (o0 + j * i.size), none⟩)) hH ?_ (RV.mk rfl ?_)
        · simp only [execOp, ho, e1, hyv, Sem.run_bind, run_indexA ht hi hjn', Result.andThen_ok, Sem.run_pure, Nat.add_assoc]
        · simp only [RVc]; exact ⟨q, hq, rfl⟩
      · rename_i l0 o9 hc
        rw [hc] at rx
        simp only [Option.some.injEq, Prod.mk.injEq] at hev
        obtain ⟨rfl, rfl⟩ := hev
        obtain ⟨b, o0, e1, hr⟩ := rx.pe
        refine Sims.calm (v' := .pointer (some ⟨b, o0 + (o9 + j * i.size), none⟩)) hH ?_ (RV.mk rfl ?_)
        · simp only [execOp, ho, e1, hyv, Sem.run_bind, run_indexA ht hi hjn', Result.andThen_ok, Sem.run_pure, Nat.add_assoc]
        · simp only [RVc]; exact ⟨b, o0, rfl, hr⟩
      · cases hev
  · cases hev
theorem byteArray_get? (s : ByteArray) (i : Nat) : s[i]? = s.data[i]? := by
  by_cases hi : i < s.size
  · rw [getElem?_pos s i hi, getElem?_pos s.data i (by simpa using hi)]; rfl
  · rw [getElem?_neg s i hi, getElem?_neg s.data i (by simpa using hi)]
theorem sim_idx (hG : GOk G M) (hE : ER I M e a.tmps) (hH : RH I M h) {x y : Operand} {cx cy : Opd} {t : TypeId} (ho : o.op = .index t x y) (ht : P.underlying t = some .string) (hx : opd G x = some cx) (hy : opd G y = some cy) (hev : evOp (.idx cx cy) e h k = some (v, h')) : Sims P I M k o a v h' := by
  have rx := opd_rel hG hE hx
  have ry := opd_rel hG hE hy
  simp only [evOp] at hev
  split at hev
  · rename_i j s hj hc
    rw [hc] at rx
    obtain ⟨kd, hyv⟩ := natA_rel ry hj
    split at hev
    · rename_i b hb
      simp only [Option.some.injEq, Prod.mk.injEq] at hev
      obtain ⟨rfl, rfl⟩ := hev
      refine Sims.calm hH ?_ (RV.mkInt _ _)
      have h0 : (0 : Int) ≤ (j : Int) := by omega
      simp only [execOp, ho, rx.str, hyv, Instr.index, asIntOf, Sem.run_bind, Sem.run_pure, Result.andThen_ok, run_underlying ht, if_pos h0, Int.toNat_natCast, byteArray_get?, hb]
    · cases hev
  · cases hev
/-- What lies at i in the cells cs is u: one cell, or s cells. -/
def AtC (I : Inj) (M : Mem) (n : Option Nat) (i : Nat) (cs : List Value) (u : AV) : Prop := match n with
    | none => ∃ y, cs[i]? = some y ∧ RV I M u y
    | some s => i + s ≤ cs.length ∧ RV I M u (.agg ((cs.drop i).take s).toArray)
theorem loadC_rel {n : Option Nat} {i : Nat} {l : List AV} {cs : List Value} {u : AV} (r : RVs I M l cs) (hl : loadC n i l = some u) : AtC I M n i cs u := by
  cases n with
  | none =>
    simp only [loadC] at hl
    obtain ⟨y, hy, hn, hr⟩ := r.get hl
    exact ⟨y, hy, RV.mk hn hr⟩
  | some s =>
    simp only [loadC] at hl
    cases hb : Nat.ble (i + s) l.length with
    | false => simp [hb] at hl
    | true =>
      simp only [hb, cond_true, Option.some.injEq] at hl
      subst hl
      have := ble_le hb
      exact ⟨by rw [r.len]; exact this, (RV1.agg (by simpa using (r.drop i).take s)).toRV⟩
theorem loadD_rel {n : Option Nat} {i : Nat} {l : List D} {cs : List Value} {u : AV} (r : RDs M.w M.fz l cs) (hl : loadD n i l = some u) : AtC I M n i cs u := by
  cases n with
  | none =>
    simp only [loadD, Option.map_eq_some_iff] at hl
    obtain ⟨x, hx, rfl⟩ := hl
    obtain ⟨y, hy, hn, hr⟩ := r.get hx
    exact ⟨y, hy, RV.ofData hn hr⟩
  | some s =>
    simp only [loadD] at hl
    cases hb : Nat.ble (i + s) l.length with
    | false => simp [hb] at hl
    | true =>
      simp only [hb, cond_true, Option.some.injEq] at hl
      subst hl
      have := ble_le hb
      exact ⟨by rw [r.len]; exact this, (RV1.aggD (by simpa using (r.drop i).take s)).toRV⟩
theorem run_part {w : World} {t : TypeId} {g : Bool} {s : Nat} (hg : aggB P t = some g) (hs : szOf P t = some s) {cs : Array Value} {i : Nat} {y : Value} (hy : match g with | true => y = .agg ((cs.toList.drop i).take s).toArray ∧ i + s ≤ cs.size | false => cs[i]? = some y) : (part t cs i).run P w = .ok y w := by
  obtain ⟨inf, hi, rfl⟩ : ∃ i, P.info? t = some i ∧ i.size = s := by simpa [szOf] using hs
  unfold part
  simp only [Sem.run_bind, run_isAgg hg, Result.andThen_ok]
  cases g with
  | true =>
    obtain ⟨rfl, hle⟩ := hy
    simp only [if_true, Sem.run_bind, run_sizeOf hi, Result.andThen_ok, Sem.run_pure]
    congr 2
    apply Array.toList_inj.1
    simp [Array.toList_extract, List.extract_eq_take_drop, List.drop_take]
  | false => simp only [Bool.false_eq_true, if_false, hy]; rfl
theorem RV.agg {x : AV} {u : Value} {l : List AV} (r : RV I M x u) (hg : agV x = true) (hl : cellsV x = some l) : ∃ cs, u = .agg cs ∧ RVs I M l cs.toList := by
  have r1 := r.one (by rintro t rfl; simp [agV] at hg)
  have hc := r1.cells hl
  rcases r1 with rfl | ⟨h1, h2⟩
  · simp [agV] at hg
  · rw [hg] at h1
    cases u with
    | agg cs => exact ⟨cs, rfl, hc⟩
    | _ => simp [Tm.isAgg] at h1
theorem sim_idxV (hG : GOk G M) (hE : ER I M e a.tmps) (hH : RH I M h) {x y : Operand} {cx cy : Opd} {t el : TypeId} {n s : Nat} {g : Bool} (ho : o.op = .index t x y) (ht : P.underlying t = some (.array n el)) (hz : szOf P el = some s) (hg : aggB P el = some g) (hx : opd G x = some cx) (hy : opd G y = some cy) (hev : evOp (.idxV n s g cx cy) e h k = some (v, h')) : Sims P I M k o a v h' := by
  have rx := opd_rel hG hE hx
  have ry := opd_rel hG hE hy
  obtain ⟨i, hi, rfl⟩ : ∃ i, P.info? el = some i ∧ i.size = s := by simpa [szOf] using hz
  simp only [evOp] at hev
  split at hev
  · rename_i j hj
    obtain ⟨kd, hyv⟩ := natA_rel ry hj
    cases hjn : Nat.blt j n && agV (cx.ev e) with
    | false => simp [hjn] at hev
    | true =>
      simp only [hjn, cond_true] at hev
      simp only [Bool.and_eq_true] at hjn
      have hjn' := blt_lt hjn.1
      split at hev
      · rename_i l hl
        obtain ⟨cs, e1, hr⟩ := rx.agg hjn.2 hl
        split at hev
        · rename_i u hu
          simp only [Option.some.injEq, Prod.mk.injEq] at hev
          obtain ⟨rfl, rfl⟩ := hev
          have h1 : ((0 : Int) ≤ (j : Int) ∧ (j : Int) < (n : Int)) := ⟨by omega, by omega⟩
          have := loadC_rel hr hu
          cases g with
          | true =>
            obtain ⟨h2, h3⟩ := this
            refine Sims.calm hH ?_ h3
            simp only [execOp, ho, e1, hyv, Instr.index, asIntOf, Sem.run_bind, Sem.run_pure, Result.andThen_ok, run_underlying ht, Sem.run_ite, if_pos h1, run_sizeOf hi, Int.toNat_natCast]
            rw [run_part hg hz ⟨rfl, by simpa using h2⟩]; rfl
          | false =>
            obtain ⟨y', hy', h3⟩ := this
            refine Sims.calm hH ?_ h3
            simp only [execOp, ho, e1, hyv, Instr.index, asIntOf, Sem.run_bind, Sem.run_pure, Result.andThen_ok, run_underlying ht, Sem.run_ite, if_pos h1, run_sizeOf hi, Int.toNat_natCast]
            rw [run_part hg hz (by simpa using hy')]; rfl
        · cases hev
      · cases hev
  · cases hev
theorem headSz_eq {w : World} {fz : Nat → Nat} {l : List D} {s sz : Nat} {cs : List Value} (hz : headSz l sz = true) (hne : l ≠ []) (hr : RRow w fz s l cs) : s = sz := by
  cases l with
  | nil => exact absurd rfl hne
  | cons x l =>
    have := hr.len1
    simp only [headSz, beq_iff_eq] at hz
    omega
theorem sub_len {l : List D} {b k : Nat} (hb : b ≤ l.length) : ((l.take b).drop k).length = b - k := by simp; omega
/-- A part of a slice that is only read. -/
theorem cut_rel {w : World} {fz : Nat → Nat} {l : List D} {b k s : Nat} {cs : List Value} {o : Nat} (hr : RRow w fz s l (cs.drop o)) : RRow w fz s ((l.take b).drop k) (cs.drop (o + k * s)) := by
  have := (hr.take b).drop k
  rwa [List.drop_drop] at this
/-- Where a part of a slice begins. -/
def partA (A : Option Addr) (c k s : Nat) : Option Addr := if c = k then A else A.map (·.add (k * s))
theorem run_part_sl {w : World} {t el : TypeId} {i : TypeInfo} (ht : P.underlying t = some (.slice el)) (hi : P.info? el = some i) {A : Option Addr} {n c b k : Nat} {lo hi' : Option Value} (h1 : Bd hi' n b) (h2 : Bd lo 0 k) (hb : b ≤ c) (hk : k ≤ b) : (Instr.sliceAt t (.slice A n c) lo hi' none).run P w = .ok (.slice (partA A c k i.size) (b - k) (c - k)) w := by
  simp only [Instr.sliceAt, Instr.slice, Sem.run_bind, run_underlying ht, Result.andThen_ok, run_bounds h1 h2 hb hk, run_sizeOf hi, Sem.run_pure]
  rfl
theorem run_part_sl3 {w : World} {t el : TypeId} {i : TypeInfo} (ht : P.underlying t = some (.slice el)) (hi : P.info? el = some i) {A : Option Addr} {n c b k m : Nat} {lo : Option Value} {x y : Value} {kd kd' : IntKind} (h1 : x = .int kd b) (h3 : y = .int kd' m) (h2 : Bd lo 0 k) (hm : m ≤ c) (hb : b ≤ m) (hk : k ≤ b) : (Instr.sliceAt t (.slice A n c) lo (some x) (some y)).run P w = .ok (.slice (partA A m k i.size) (b - k) (m - k)) w := by
  simp only [Instr.sliceAt, Instr.slice, Sem.run_bind, run_underlying ht, Result.andThen_ok, run_bounds3 h1 h3 h2 hm hb hk, run_sizeOf hi, Sem.run_pure]
  rfl
theorem cutD_rel {l : List D} {b k s o : Nat} {A : Option Addr} {c g : Nat} (hb : b ≤ l.length) (hk : k ≤ b) (hc : l.length ≤ c) (hA : A = some ⟨g, o, none⟩ ∧ 0 < s ∧ o + l.length * s ≤ M.fz g ∧ RRow M.w M.fz s l ((cellsOf M.w g).drop o)) : RV I M (.d (cutD ((l.take b).drop k))) (.slice (partA A c k s) (b - k) (c - k)) := by
  have hlen := sub_len (k := k) hb
  obtain ⟨rfl, hs, hf, hr⟩ := hA
  have hcut := cut_rel (b := b) (k := k) hr
  cases hcl : (l.take b).drop k with
  | nil =>
    rw [hcl] at hlen
    simp only [List.length_nil] at hlen
    refine RV.ofData rfl ?_
    simp only [cutD, RDc]
    rw [← hlen]
    exact ⟨_, _, rfl⟩
  | cons x r =>
    rw [hcl] at hlen hcut
    have hpos : 0 < b - k := by rw [← hlen]; simp
    refine RV.ofData rfl ?_
    simp only [cutD, RDc]
    refine ⟨_, _, by rw [hlen], by omega, by simp, fun _ => ⟨g, o + k * s, s, ?_, hs, ?_, hcut⟩⟩
    · unfold partA
      rw [if_neg (by omega)]
      simp only [Option.map_some, add_none]
    · have : (x :: r).length * s = (b - k) * s := by rw [hlen]
      rw [this]
      have h2 : k * s + (b - k) * s ≤ l.length * s := by rw [← Nat.add_mul]; exact Nat.mul_le_mul_right s (by omega)
      omega
theorem sim_sl (hG : GOk G M) (hE : ER I M e a.tmps) (hH : RH I M h) {x : Operand} {lo hi : Option Operand} {c : Opd} {clo chi : Option Opd} {t el : TypeId} {zs : List D} (ho : o.op = .slice t x lo hi none) (ht : P.underlying t = some (.slice el)) (hz : zeroD P el = some zs) (hx : opd G x = some c) (hlo : oopd G lo = some clo) (hhi : oopd G hi = some chi) (hev : evOp (.sl zs.length c clo chi none) e h k = some (v, h')) : Sims P I M k o a v h' := by
  have rx := opd_rel hG hE hx
  obtain ⟨i, z, _, hi', _, hsz, h0, _⟩ := zeroD_spec hz
  have run : ∀ {A n c b j}, a.eval x = .slice A n c → Bd (hi.map a.eval) n b → Bd (lo.map a.eval) 0 j → b ≤ c → j ≤ b → (execOp a.eval o).run P M.w = .ok (.value (.slice (partA A c j zs.length) (b - j) (c - j))) M.w := by
    intro A n c b j e1 h1 h2 h3 h4
    simp only [execOp, ho, e1, Sem.run_bind, Option.map_none, run_part_sl ht hi' h1 h2 h3 h4, Result.andThen_ok, Sem.run_pure, hsz]
  have lek : ∀ {b j : Nat}, (j ≤ b ∨ lo = none ∧ j = 0) → j ≤ b := by intro b j hh; rcases hh with hh | ⟨_, rfl⟩ <;> omega
  simp only [evOp] at hev
  split at hev
  · rename_i n l0 m hc
    rw [hc] at rx
    obtain ⟨q, A, hq, e1, hle, hA⟩ := rx.slR
    split at hev
    · rename_i s l z hob
      cases hss : s == zs.length with
      | false => simp [hss] at hev
      | true =>
        simp only [hss, cond_true] at hev
        have hss' : s = zs.length := by simpa using hss
        have hro := (hH.ob n _ q hob hq).2.2
        simp only [RO] at hro
        obtain ⟨hs1, hs2, cc, ee, hheap, hroom, hll, hrow, _⟩ := hro
        split at hev
        · rename_i b hb
          split at hev
          · rename_i j hj
            simp only [Option.some.injEq, Prod.mk.injEq] at hev
            obtain ⟨rfl, rfl⟩ := hev
            obtain ⟨g1, g2⟩ := bnd_rel hG hE hhi hb
            obtain ⟨g3, g4⟩ := bnd_rel hG hE hlo hj
            have hj' := lek g4
            have hb' : l0 + b ≤ q.c := by rcases g2 with g2 | ⟨_, g2⟩ <;> omega
            refine Sims.calm hH (run e1 g1 g3 (by omega) hj') (RV.mk rfl ?_)
            simp only [RVc]
            refine ⟨q, _, hq, by rw [Nat.sub_sub], by omega, ?_⟩
            by_cases hcj : q.c - l0 = j
            · exact .inl (by omega)
            · right
              rcases hA with hA | hA
              · omega
              · unfold partA
                rw [if_neg hcj, hA]
                simp only [Option.map_some, add_none, Nat.add_mul, ← hss', hs1, Nat.add_assoc]
          · cases hev
        · cases hev
    · cases hev
  · rename_i l hc
    rw [hc] at rx
    obtain ⟨A, cc, e1, hle, h00, hr⟩ := rx.slD
    cases hh : headSz l zs.length with
    | false => simp [hh] at hev
    | true =>
      simp only [hh, cond_true] at hev
      split at hev
      · rename_i b hb
        split at hev
        · rename_i j hj
          simp only [Option.some.injEq, Prod.mk.injEq] at hev
          obtain ⟨rfl, rfl⟩ := hev
          obtain ⟨g1, g2⟩ := bnd_rel hG hE hhi hb
          obtain ⟨g3, g4⟩ := bnd_rel hG hE hlo hj
          have hj' := lek g4
          have hb' : b ≤ l.length := by rcases g2 with g2 | ⟨_, g2⟩ <;> omega
          refine Sims.calm hH (run e1 g1 g3 (by omega) hj') ?_
          by_cases hne : l = []
          · subst hne
            have : b = 0 := by simpa using hb'
            subst this
            have e0 : cutD ((([] : List D).take 0).drop j) = .se := by simp [cutD]
            rw [e0]
            exact RV.ofData rfl (by simp only [RDc, Nat.zero_sub]; exact ⟨_, _, rfl⟩)
          · obtain ⟨g, x0, s, hA, hs, hf, hrow⟩ := hr hne
            have := headSz_eq hh hne hrow
            rw [← this]
            exact cutD_rel hb' hj' hle ⟨hA, hs, hf, hrow⟩
        · cases hev
      · cases hev
  · rename_i l hc
    rw [hc] at rx
    obtain ⟨A, e1, hr⟩ := rx.zlD
    cases hh : headSz l zs.length with
    | false => simp [hh] at hev
    | true =>
      simp only [hh, cond_true] at hev
      split at hev
      · rename_i b hb
        split at hev
        · rename_i j hj
          simp only [Option.some.injEq, Prod.mk.injEq] at hev
          obtain ⟨rfl, rfl⟩ := hev
          obtain ⟨g1, g2⟩ := bnd_rel hG hE hhi hb
          obtain ⟨g3, g4⟩ := bnd_rel hG hE hlo hj
          have hj' := lek g4
          have hb' : b ≤ l.length := by rcases g2 with g2 | ⟨_, g2⟩ <;> omega
          refine Sims.calm hH (run e1 g1 g3 (by omega) hj') ?_
          by_cases hne : l = []
          · subst hne
            have : b = 0 := by simpa using hb'
            subst this
            have e0 : cutD ((([] : List D).take 0).drop j) = .se := by simp [cutD]
            rw [e0]
            exact RV.ofData rfl (by simp only [RDc, Nat.zero_sub]; exact ⟨_, _, rfl⟩)
          · obtain ⟨g, x0, s, hA, hs, hf, hrow⟩ := hr hne
            have := headSz_eq hh hne hrow
            rw [← this]
            exact cutD_rel hb' hj' (Nat.le_refl _) ⟨hA, hs, hf, hrow⟩
        · cases hev
      · cases hev
  · rename_i l hc
    rw [hc] at rx
    obtain ⟨A, cc, e1, hle, hr⟩ := rx.bsD
    cases hh : headSz l zs.length with
    | false => simp [hh] at hev
    | true =>
      simp only [hh, cond_true] at hev
      split at hev
      · rename_i b hb
        split at hev
        · rename_i j hj
          simp only [Option.some.injEq, Prod.mk.injEq] at hev
          obtain ⟨rfl, rfl⟩ := hev
          obtain ⟨g1, g2⟩ := bnd_rel hG hE hhi hb
          obtain ⟨g3, g4⟩ := bnd_rel hG hE hlo hj
          have hj' := lek g4
          have hb' : b ≤ l.length := by rcases g2 with g2 | ⟨_, g2⟩ <;> omega
          refine Sims.calm hH (run e1 g1 g3 (by omega) hj') (RV.mk rfl ?_)
          have hlen := sub_len (k := j) hb'
          simp only [RVc]
          refine ⟨_, _, by rw [hlen], by omega, fun hne => ?_⟩
          have hpos : 0 < b - j := by rw [← hlen]; exact List.length_pos_iff.2 hne
          have hne' : l ≠ [] := by rintro rfl; simp at hne
          obtain ⟨g, x0, s, hA, hs, hf, hrow⟩ := hr hne'
          have := headSz_eq hh hne' hrow
          refine ⟨g, x0 + j * s, s, ?_, hs, hf, cut_rel hrow⟩
          unfold partA
          rw [if_neg (by omega), hA, ← this]
          simp only [Option.map_some, add_none]
        · cases hev
      · cases hev
  · rename_i hc
    rw [hc] at rx
    have := rx.dcell rfl
    simp only [RDc] at this
    obtain ⟨A, cc, e1⟩ := this
    simp only [List.cons.injEq, and_true] at e1
    split at hev
    · rename_i b hb
      split at hev
      · rename_i j hj
        simp only [Option.some.injEq, Prod.mk.injEq] at hev
        obtain ⟨rfl, rfl⟩ := hev
        obtain ⟨g1, g2⟩ := bnd_rel hG hE hhi hb
        obtain ⟨g3, g4⟩ := bnd_rel hG hE hlo hj
        have hj' := lek g4
        have hb' : b = 0 := by rcases g2 with g2 | ⟨_, g2⟩ <;> omega
        subst hb'
        refine Sims.calm hH (run e1 g1 g3 (by omega) hj') (RV.ofData rfl ?_)
        simp only [RDc, Nat.zero_sub]
        exact ⟨_, _, rfl⟩
      · cases hev
    · cases hev
  · cases hev
theorem sim_sl3 (hG : GOk G M) (hE : ER I M e a.tmps) (hH : RH I M h) {x hi mx : Operand} {lo : Option Operand} {c cm : Opd} {clo chi : Option Opd} {t el : TypeId} {zs : List D} (ho : o.op = .slice t x lo (some hi) (some mx)) (ht : P.underlying t = some (.slice el)) (hz : zeroD P el = some zs) (hx : opd G x = some c) (hlo : oopd G lo = some clo) (hhi : oopd G (some hi) = some chi) (hmx : opd G mx = some cm) (hev : evOp (.sl zs.length c clo chi (some cm)) e h k = some (v, h')) : Sims P I M k o a v h' := by
  have rx := opd_rel hG hE hx
  obtain ⟨i, z, _, hi', _, hsz, h0, _⟩ := zeroD_spec hz
  simp only [evOp] at hev
  split at hev
  · rename_i n r hroom
    have hsl : ∃ A m cc, a.eval x = .slice A m cc ∧ r ≤ cc := by
      unfold room at hroom
      split at hroom
      · rename_i n0 l0 m hc
        rw [hc] at rx
        obtain ⟨q, A, hq, e1, hle, hA⟩ := rx.slR
        split at hroom
        · rename_i s l z hob
          simp only [Option.some.injEq, Prod.mk.injEq] at hroom
          have hro := (hH.ob n0 _ q hob hq).2.2
          simp only [RO] at hro
          obtain ⟨hs1, hs2, cc, ee, hheap, hrm, hll, _⟩ := hro
          exact ⟨_, _, _, e1, by omega⟩
        · cases hroom
      · rename_i l hc
        rw [hc] at rx
        obtain ⟨A, cc, e1, hle, _⟩ := rx.slD
        simp only [Option.some.injEq, Prod.mk.injEq] at hroom
        exact ⟨_, _, _, e1, by omega⟩
      · rename_i hc
        rw [hc] at rx
        have := rx.dcell rfl
        simp only [RDc] at this
        obtain ⟨A, cc, e1⟩ := this
        simp only [List.cons.injEq, and_true] at e1
        simp only [Option.some.injEq, Prod.mk.injEq] at hroom
        exact ⟨_, _, _, e1, by omega⟩
      · rename_i l hc
        rw [hc] at rx
        obtain ⟨A, e1, _⟩ := rx.zlD
        simp only [Option.some.injEq, Prod.mk.injEq] at hroom
        exact ⟨_, _, _, e1, by omega⟩
      · rename_i l hc
        rw [hc] at rx
        obtain ⟨A, cc, e1, hle, _⟩ := rx.bsD
        simp only [Option.some.injEq, Prod.mk.injEq] at hroom
        exact ⟨_, _, _, e1, by omega⟩
      · cases hroom
    obtain ⟨A, m, cc, e1, hrc⟩ := hsl
    split at hev
    · rename_i cx hcx
      split at hev
      · rename_i b hb
        split at hev
        · rename_i j hj
          obtain ⟨g1, g2⟩ := bnd_rel hG hE hhi hb
          obtain ⟨g3, g4⟩ := bnd_rel hG hE hlo hj
          obtain ⟨g5, g6⟩ := bnd_rel (x := some mx) hG hE (by simp only [oopd, hmx, Option.map_some]) hcx
          have g2' : b ≤ cx := by rcases g2 with g2 | ⟨g2, _⟩; exact g2; cases g2
          have g6' : cx ≤ r := by rcases g6 with g6 | ⟨g6, _⟩; exact g6; cases g6
          have g4' : j ≤ b := by rcases g4 with g4 | ⟨_, g4⟩ <;> omega
          obtain ⟨kd, g1'⟩ := g1
          obtain ⟨kd', g5'⟩ := g5
          have hrun : (execOp a.eval o).run P M.w = .ok (.value (.slice (partA A cx j zs.length) (b - j) (cx - j))) M.w := by
            simp only [execOp, ho, e1, Sem.run_bind, Option.map_some, run_part_sl3 ht hi' g1' g5' g3 (by omega : cx ≤ cc) g2' g4', Result.andThen_ok, Sem.run_pure, hsz]
          cases hq : cx == b && j == b with
          | false =>
            simp only [hq, cond_false, Option.some.injEq, Prod.mk.injEq] at hev
            obtain ⟨rfl, rfl⟩ := hev
            exact Sims.calm hH hrun RV.undef
          | true =>
            simp only [hq, cond_true, Option.some.injEq, Prod.mk.injEq] at hev
            obtain ⟨rfl, rfl⟩ := hev
            simp only [Bool.and_eq_true, beq_iff_eq] at hq
            obtain ⟨rfl, rfl⟩ := hq
            refine Sims.calm hH hrun (RV.mk rfl ?_)
            simp only [RVc, List.length_nil, Nat.sub_self]
            exact ⟨_, rfl, fun h0 => absurd rfl h0⟩
        · cases hev
      · cases hev
    · cases hev
  · cases hev
end
end Tm
/- Memory: new blocks, blocks that change, and what stays. No statement of the seat is proved here. -/
namespace Tm
open Go
set_option linter.unusedVariables false
set_option linter.unusedSimpArgs false
def Same (M M' : Mem) (b : Nat) : Prop := M'.w.heap[b]? = M.w.heap[b]? ∧ M'.fz b = M.fz b
theorem RO.keep {I I' : Inj} {M M' : Mem} (h : Ext M M') (hI : Le I I') {q : Pl} (hs : Same M M' q.b) : ∀ {ob : Ob}, RO I M q ob → RO I' M' q ob
  | .box l, r => by
    simp only [RO] at r ⊢
    obtain ⟨c, e, h1, h2, h3, h4⟩ := r
    exact ⟨c, e, by rw [hs.1]; exact h1, h2, h3.ext h hI, by rw [hs.2]; exact h4⟩
  | .row sz l z, r => by
    simp only [RO] at r ⊢
    obtain ⟨h0, h1, c, e, h2, h3, h4, h5, h6⟩ := r
    exact ⟨h0, h1, c, e, by rw [hs.1]; exact h2, h3, h4, RRow.ext h.e0 _ _ _ _ rfl h5, by rw [hs.2]; exact h6⟩
  | .map ks vs, r => by
    simp only [RO] at r ⊢
    obtain ⟨es, ck, h1, h2, h3, h4⟩ := r
    exact ⟨es, ck, by rw [hs.1]; exact h1, h2.ext h.e0, h3.ext h hI, by rw [hs.2]; exact h4⟩
def Inj.set (I : Inj) (k : Nat) (q : Pl) : Inj := fun a => if a = k then some q else I a
theorem Inj.set_le {I : Inj} {k : Nat} (q : Pl) (h : I k = none) : Le I (I.set k q) := fun a p ha => by
  unfold Inj.set
  by_cases hk : a = k
  · subst hk; rw [h] at ha; cases ha
  · rw [if_neg hk]; exact ha
theorem Inj.set_same {I : Inj} {k : Nat} {q : Pl} : (I.set k q) k = some q := by simp [Inj.set]
theorem Inj.set_only {I : Inj} {k : Nat} {q : Pl} : ∀ x, (I.set k q) x ≠ none → I x ≠ none ∨ x = k := fun x hx => by
  unfold Inj.set at hx
  by_cases hk : x = k
  · exact .inr hk
  · rw [if_neg hk] at hx; exact .inl hx
section
variable {I I' : Inj} {M M' : Mem} {h : Heap}
theorem RH.keep (hH : RH I M h) (hx : Ext M M') (hs : ∀ a ob q, h.get a = some ob → I a = some q → Same M M' q.b) (hw : ∀ b, M'.fz b ≤ (cellsOf M'.w b).length) : RH I M' h where
  wf := hw
  lo := by rw [hx.lo]; exact Nat.le_trans hH.lo hx.size
  ob := fun a ob q ha hq => by
    obtain ⟨h1, h2, h3⟩ := hH.ob a ob q ha hq
    exact ⟨by rw [hx.lo]; exact h1, Nat.lt_of_lt_of_le h2 hx.size, h3.keep hx (Le.refl I) (hs a ob q ha hq)⟩
  inj := hH.inj
  cp := hH.cp
/-- A new object. -/
theorem RH.add {k : Nat} {q : Pl} {ob : Ob} (hH : RH I M h) (hx : Ext M M') (hk : I k = none) (hs : ∀ a ob q, h.get a = some ob → I a = some q → Same M M' q.b) (hw : ∀ b, M'.fz b ≤ (cellsOf M'.w b).length)
    (hq1 : M'.lo ≤ q.b) (hq2 : q.b < M'.w.heap.size) (hr : RO (I.set k q) M' q ob) (hn : ∀ a ob p, h.get a = some ob → I a = some p → p.b ≠ q.b) (hcp : q.c ≤ 9223372036854775807) : RH (I.set k q) M' (h.set k ob) where
  wf := hw
  lo := by rw [hx.lo]; exact Nat.le_trans hH.lo hx.size
  ob := fun a ob' p ha hp => by
    rw [T.get_set] at ha
    by_cases hak : a = k
    · subst hak
      simp only [if_true, Option.some.injEq] at ha
      rw [Inj.set_same] at hp
      cases hp
      subst ha
      exact ⟨hq1, hq2, hr⟩
    · rw [if_neg hak] at ha
      simp only [Inj.set, if_neg hak] at hp
      obtain ⟨h1, h2, h3⟩ := hH.ob a ob' p ha hp
      exact ⟨by rw [hx.lo]; exact h1, Nat.lt_of_lt_of_le h2 hx.size, h3.keep hx (Inj.set_le q hk) (hs a ob' p ha hp)⟩
  inj := fun a a' o1 o2 p p' ha ha' hp hp' hne => by
    rw [T.get_set] at ha ha'
    by_cases hak : a = k
    · subst hak
      have hak' : a' ≠ a := fun e => hne e.symm
      rw [if_neg hak'] at ha'
      rw [Inj.set_same] at hp
      simp only [Inj.set, if_neg hak'] at hp'
      cases hp
      exact (hn a' o2 p' ha' hp').symm
    · rw [if_neg hak] at ha
      simp only [Inj.set, if_neg hak] at hp
      by_cases hak' : a' = k
      · subst hak'
        rw [Inj.set_same] at hp'
        cases hp'
        exact hn a o1 p ha hp
      · rw [if_neg hak'] at ha'
        simp only [Inj.set, if_neg hak'] at hp'
        exact hH.inj a a' o1 o2 p p' ha ha' hp hp' hne
  cp := fun a o1 p ha hp => by
    rw [T.get_set] at ha
    by_cases hak : a = k
    · subst hak
      rw [Inj.set_same] at hp
      cases hp
      exact hcp
    · rw [if_neg hak] at ha
      simp only [Inj.set, if_neg hak] at hp
      exact hH.cp a o1 p ha hp
/-- An object that changes. -/
theorem RH.mod {a : Nat} {q : Pl} {ob ob' : Ob} (hH : RH I M h) (ha : h.get a = some ob) (hq : I a = some q) (hx : Ext M M') (hs : ∀ b, b ≠ q.b → Same M M' b) (hw : ∀ b, M'.fz b ≤ (cellsOf M'.w b).length) (hr : RO I M' q ob') : RH I M' (h.set a ob') where
  wf := hw
  lo := by rw [hx.lo]; exact Nat.le_trans hH.lo hx.size
  ob := fun x o1 p hx1 hp => by
    rw [T.get_set] at hx1
    by_cases hxa : x = a
    · subst hxa
      simp only [if_true, Option.some.injEq] at hx1
      rw [hq] at hp
      cases hp
      subst hx1
      obtain ⟨h1, h2, _⟩ := hH.ob x ob q ha hq
      exact ⟨by rw [hx.lo]; exact h1, Nat.lt_of_lt_of_le h2 hx.size, hr⟩
    · rw [if_neg hxa] at hx1
      obtain ⟨h1, h2, h3⟩ := hH.ob x o1 p hx1 hp
      exact ⟨by rw [hx.lo]; exact h1, Nat.lt_of_lt_of_le h2 hx.size, h3.keep hx (Le.refl I) (hs p.b (hH.inj x a o1 ob p q hx1 ha hp hq hxa))⟩
  inj := fun x y o1 o2 p p' hx1 hy1 hp hp' hne => by
    rw [T.get_set] at hx1 hy1
    by_cases hxa : x = a
    · subst hxa
      have hya : y ≠ x := fun e => hne e.symm
      rw [if_neg hya] at hy1
      exact hH.inj x y ob o2 p p' ha hy1 hp hp' hne
    · rw [if_neg hxa] at hx1
      by_cases hya : y = a
      · subst hya
        exact hH.inj x y o1 ob p p' hx1 ha hp hp' hne
      · rw [if_neg hya] at hy1
        exact hH.inj x y o1 o2 p p' hx1 hy1 hp hp' hne
  cp := fun x o1 p hx1 hp => by
    rw [T.get_set] at hx1
    by_cases hxa : x = a
    · subst hxa; rw [hq] at hp; cases hp; exact hH.cp x ob q ha hq
    · rw [if_neg hxa] at hx1; exact hH.cp x o1 p hx1 hp
theorem RH.del {a : Nat} (hH : RH I M h) : RH I M (h.del a) where
  wf := hH.wf
  lo := hH.lo
  ob := fun x o1 p hx hp => by
    rw [T.get_del] at hx
    by_cases hxa : x = a
    · rw [if_pos hxa] at hx; cases hx
    · rw [if_neg hxa] at hx; exact hH.ob x o1 p hx hp
  inj := fun x y o1 o2 p p' hx hy hp hp' hne => by
    rw [T.get_del] at hx hy
    by_cases hxa : x = a
    · rw [if_pos hxa] at hx; cases hx
    · rw [if_neg hxa] at hx
      by_cases hya : y = a
      · rw [if_pos hya] at hy; cases hy
      · rw [if_neg hya] at hy; exact hH.inj x y o1 o2 p p' hx hy hp hp' hne
  cp := fun x o1 p hx hp => by
    rw [T.get_del] at hx
    by_cases hxa : x = a
    · rw [if_pos hxa] at hx; cases hx
    · rw [if_neg hxa] at hx; exact hH.cp x o1 p hx hp
/-- Memory with a new block behind it, the first n cells of which never change. -/
def Mem.push (M : Mem) (ob : Obj) (n : Nat) : Mem := ⟨{ M.w with heap := M.w.heap.push ob }, fun b => if b = M.w.heap.size then n else M.fz b, M.lo⟩
theorem heap_push {w : World} {ob : Obj} {b : Nat} : ({ w with heap := w.heap.push ob } : World).heap[b]? = if b = w.heap.size then some ob else w.heap[b]? := by
  show (w.heap.push ob)[b]? = _
  rw [Array.getElem?_push]
theorem cellsOf_push {ob : Obj} {n b : Nat} : cellsOf (M.push ob n).w b = if b = M.w.heap.size then (match ob with | .cells c _ _ => c.toList | _ => []) else cellsOf M.w b := by
  unfold cellsOf Mem.push
  rw [heap_push]
  by_cases hb : b = M.w.heap.size
  · simp only [hb, if_true]; cases ob <;> rfl
  · simp only [hb, if_false]
theorem cellsOf_none {w : World} {b : Nat} (hb : w.heap.size ≤ b) : cellsOf w b = [] := by simp [cellsOf, Array.getElem?_eq_none hb]
theorem push_ext (hw : ∀ b, M.fz b ≤ (cellsOf M.w b).length) (hlo : M.lo ≤ M.w.heap.size) (ob : Obj) (n : Nat) : Ext M (M.push ob n) where
  lo := rfl
  os := rfl
  tape := rfl
  out := rfl
  size := by simp [Mem.push]
  low := fun b hb => by unfold Mem.push; rw [heap_push, if_neg (by omega)]
  fz := fun b => by
    unfold Mem.push
    by_cases hb : b = M.w.heap.size
    · have := hw b; rw [cellsOf_none (by omega)] at this; simp at this; omega
    · simp [hb]
  fzl := fun b hb => by simp only [Mem.push]; rw [if_neg (by omega)]
  cells := fun b => by
    rw [cellsOf_push]
    by_cases hb : b = M.w.heap.size
    · have := hw b
      rw [cellsOf_none (by omega)] at this ⊢
      have h0 : M.fz b = 0 := by simpa using this
      simp [h0]
    · rw [if_neg hb]
  oth := fun b o h1 h2 => by
    unfold Mem.push
    rw [heap_push, if_neg (by have := (Array.getElem?_eq_some_iff.1 h1).1; omega)]; exact h1
theorem push_same {ob : Obj} {n b : Nat} (hb : b < M.w.heap.size) : Same M (M.push ob n) b := ⟨by unfold Mem.push; rw [heap_push, if_neg (by omega)], by simp only [Mem.push]; rw [if_neg (by omega)]⟩
theorem push_wf {ob : Obj} {n : Nat} (hw : ∀ b, M.fz b ≤ (cellsOf M.w b).length) (hn : n ≤ (match ob with | .cells c _ _ => c.toList | _ => []).length) : ∀ b, (M.push ob n).fz b ≤ (cellsOf (M.push ob n).w b).length := fun b => by
  rw [cellsOf_push]
  by_cases hb : b = M.w.heap.size
  · rw [if_pos hb]; simp only [Mem.push, hb, if_true]; exact hn
  · rw [if_neg hb]; simp only [Mem.push, hb, if_false]; exact hw b
theorem RH.push (hH : RH I M h) (ob : Obj) (n : Nat) (hn : n ≤ (match ob with | .cells c _ _ => c.toList | _ => []).length) : RH I (M.push ob n) h :=
  hH.keep (push_ext hH.wf hH.lo ob n) (fun a o1 q ha hq => push_same (hH.ob a o1 q ha hq).2.1) (push_wf hH.wf hn)
theorem push_at {ob : Obj} {n : Nat} : (M.push ob n).w.heap[M.w.heap.size]? = some ob := by unfold Mem.push; rw [heap_push, if_pos rfl]
/-- A new object in a new block. -/
theorem RH.new {k : Nat} {x : Obj} {ob : Ob} {c s : Nat} (hH : RH I M h) (hk : I k = none) (hr : RO (I.set k ⟨M.w.heap.size, 0, c, s⟩) (M.push x 0) ⟨M.w.heap.size, 0, c, s⟩ ob) (hcp : c ≤ 9223372036854775807 := by omega) : RH (I.set k ⟨M.w.heap.size, 0, c, s⟩) (M.push x 0) (h.set k ob) :=
  hH.add (push_ext hH.wf hH.lo x 0) hk (fun a o1 q ha hq => push_same (hH.ob a o1 q ha hq).2.1) (push_wf hH.wf (Nat.zero_le _)) hH.lo (by simp [Mem.push]) hr (fun a o1 p ha hp => by have := (hH.ob a o1 p ha hp).2.1; show p.b ≠ M.w.heap.size; omega) hcp
end
section
variable {P : Program} {G : Nat → Option AV} {I : Inj} {M : Mem} {e : Env} {h h' : Heap} {a : Act} {k : Nat} {v : AV} {o : Oper}
theorem Sims.box {c : Array Value} {el : TypeId} {l : List AV} (hH : RH I M h) (hk : I k = none) (hr : (execOp a.eval o).run P M.w = .ok (.value (.pointer (some ⟨M.w.heap.size, 0, none⟩))) { M.w with heap := M.w.heap.push (.cells c el) }) (hl : RVs I M l c.toList) : Sims P I M k o a (.p k 0) (h.set k (.box l)) := by
  have hx := push_ext hH.wf hH.lo (.cells c el) 0
  refine ⟨_, M.push (.cells c el) 0, I.set k ⟨M.w.heap.size, 0, 0, 0⟩, .inl hr, hx, Inj.set_le _ hk, Inj.set_only, hH.new hk ?_, RV.mk rfl ?_⟩
  · simp only [RO]
    exact ⟨c, el, push_at, trivial, hl.ext hx (Inj.set_le _ hk), by simp [Mem.push]⟩
  · simp only [RVc]
    exact ⟨_, Inj.set_same, rfl⟩
theorem zeroC_spec {t : TypeId} {l : List AV} (hz : zeroC P t = some l) : ∃ i z, P.info? t = some i ∧ i.zero = some z ∧ ∀ (I : Inj) (M : Mem), RVs I M l z.cells.toList := by
  unfold zeroC at hz
  split at hz
  · rename_i x hx
    unfold zeroV at hx
    split at hx
    · rename_i i hi
      split at hx
      · rename_i z hz'
        exact ⟨i, z, hi, hz', fun I M => (ofV_rel z x hx).cells hz⟩
      · cases hx
    · cases hx
  · cases hz
theorem run_zeroValue {w : World} {t : TypeId} {i : TypeInfo} {z : Value} (hi : P.info? t = some i) (hz : i.zero = some z) : (zeroValue t).run P w = .ok z w := by simp [zeroValue, run_typeInfo hi, hz]
theorem sim_alloc (hH : RH I M h) (hk : I k = none) {t : TypeId} {zs : List AV} (ho : o.op = .alloc t) (hz : zeroC P t = some zs) (hev : evOp (.alloc zs) e h k = some (v, h')) : Sims P I M k o a v h' := by
  obtain ⟨i, z, hi, hz', hr⟩ := zeroC_spec hz
  simp only [evOp, Option.some.injEq, Prod.mk.injEq] at hev
  obtain ⟨rfl, rfl⟩ := hev
  refine Sims.box (c := z.cells) (el := t) hH hk ?_ (hr I M)
  simp only [execOp, ho, Instr.alloc, Sem.run_bind, run_zeroValue hi hz', Result.andThen_ok, newVar, newRow, run_newObj, Sem.run_pure]
theorem sim_box (hG : GOk G M) (hE : ER I M e a.tmps) (hH : RH I M h) (hk : I k = none) {t : TypeId} {x : Operand} {c : Opd} (ho : o.op = .box t x) (hx : opd G x = some c) (hev : evOp (.box c) e h k = some (v, h')) : Sims P I M k o a v h' := by
  have rx := opd_rel hG hE hx
  simp only [evOp] at hev
  split at hev
  · rename_i l hl
    simp only [Option.some.injEq, Prod.mk.injEq] at hev
    obtain ⟨rfl, rfl⟩ := hev
    refine Sims.box (c := (a.eval x).cells) (el := t) hH hk ?_ ((rx.one (by intro l' hl'; rw [hl'] at hl; simp [cellsV] at hl)).cells hl)
    simp only [execOp, ho, Instr.box, Sem.run_bind, Result.andThen_ok, newVar, newRow, run_newObj, Sem.run_pure]
  · cases hev
theorem sim_mkmap (hH : RH I M h) (hk : I k = none) {t : TypeId} (ho : o.op = .makeMap t none) (hev : evOp .mkmap e h k = some (v, h')) : Sims P I M k o a v h' := by
  simp only [evOp, Option.some.injEq, Prod.mk.injEq] at hev
  obtain ⟨rfl, rfl⟩ := hev
  have hx := push_ext hH.wf hH.lo (.map #[] 0) 0
  refine ⟨.map (some M.w.heap.size), M.push (.map #[] 0) 0, I.set k ⟨M.w.heap.size, 0, 0, 0⟩, .inl ?_, hx, Inj.set_le _ hk, Inj.set_only, hH.new hk ?_, RV.mk rfl ?_⟩
  · simp only [execOp, ho, Option.map_none, Instr.makeMap, Sem.run_bind, Sem.run_pure, Result.andThen_ok, run_newObj, Mem.push]
  · simp only [RO]
    exact ⟨#[], 0, push_at, by simp [RDs], by simp [RVl], by simp [Mem.push], by simp [Born]⟩
  · simp only [RVc]
    exact ⟨_, Inj.set_same, rfl⟩
end
end Tm
/- Loads, look-ups, values that are built. No statement of the seat is proved here. -/
namespace Tm
open Go
set_option linter.unusedVariables false
set_option linter.unusedSimpArgs false
theorem cell_eq (w : World) (b x : Nat) : w.cell? ⟨b, x, none⟩ = (cellsOf w b)[x]? := by
  unfold World.cell? cellsOf
  cases w.heap[b]? with
  | none => rfl
  | some o => cases o <;> simp
section
variable {P : Program} {G : Nat → Option AV} {I : Inj} {M : Mem} {e : Env} {h h' : Heap} {a : Act} {k : Nat} {v : AV} {o : Oper}
theorem ldSz_spec {t : TypeId} {n : Option Nat} (hn : ldSz P t = some n) : (aggB P t = some false ∧ n = none) ∨ ∃ s, aggB P t = some true ∧ szOf P t = some s ∧ n = some s := by
  unfold ldSz at hn
  split at hn
  · rename_i hg
    simp only [Option.map_eq_some_iff] at hn
    obtain ⟨s, hs, rfl⟩ := hn
    exact .inr ⟨s, hg, hs, rfl⟩
  · rename_i hg
    simp only [Option.some.injEq] at hn
    exact .inl ⟨hg, hn.symm⟩
  · cases hn
/-- A variable is read: its cells lie at o of block b. -/
theorem run_loadVar {w : World} {t : TypeId} {n : Option Nat} {b x i : Nat} {cs : List Value} {y : Value} (hn : ldSz P t = some n) (hc : ∀ j u, cs[j]? = some u → (cellsOf w b)[x + j]? = some u)
    (hy : match n with | none => cs[i]? = some y | some s => i + s ≤ cs.length ∧ y = .agg ((cs.drop i).take s).toArray) : (loadVar t ⟨b, x + i, none⟩).run P w = .ok y w := by
  rcases ldSz_spec hn with ⟨hg, rfl⟩ | ⟨s, hg, hs, rfl⟩
  · simp only [loadVar, Sem.run_bind, run_isAgg hg, Result.andThen_ok, Bool.false_eq_true, if_false, Sem.run_ite, run_load, cell_eq, hc i y hy]
  · obtain ⟨h1, rfl⟩ := hy
    obtain ⟨inf, hi, rfl⟩ : ∃ i, P.info? t = some i ∧ i.size = s := by simpa [szOf] using hs
    have hl : ((cs.drop i).take inf.size).length = inf.size := by simp; omega
    have := run_loadCells_list (P := P) w ⟨b, x + i, none⟩ ((cs.drop i).take inf.size) (fun j u hu => by
      rw [add_none, cell_eq, Nat.add_assoc]
      refine hc (i + j) u ?_
      rw [List.getElem?_take] at hu
      split at hu
      · rwa [List.getElem?_drop] at hu
      · cases hu)
    rw [hl] at this
    simp only [loadVar, Sem.run_bind, run_isAgg hg, Result.andThen_ok, if_true, Sem.run_ite, run_sizeOf hi, this, Sem.run_pure]
theorem cellsOf_at {w : World} {b : Nat} {c : Array Value} {el : TypeId} {fr : Nat × Nat} (hb : w.heap[b]? = some (.cells c el fr)) : cellsOf w b = c.toList := by simp [cellsOf, hb]
/-- What an address says: some cells, and what lies there. -/
theorem loadA_rel {t : TypeId} {n : Option Nat} {x : AV} {u : AV} {p : Value} (hn : ldSz P t = some n) (hH : RH I M h) (rx : RV I M x p) (hl : loadA n x h = some u) : ∃ y A, p = .pointer (some A) ∧ (loadVar t A).run P M.w = .ok y M.w ∧ RV I M u y := by
  have fin : ∀ {b x i : Nat} {cs : List Value}, (∀ j y, cs[j]? = some y → (cellsOf M.w b)[x + j]? = some y) → AtC I M n i cs u → ∃ y, (loadVar t ⟨b, x + i, none⟩).run P M.w = .ok y M.w ∧ RV I M u y := by
    intro b x i cs hc hr
    cases n with
    | none => obtain ⟨y, hy, hr⟩ := hr; exact ⟨y, run_loadVar hn hc hy, hr⟩
    | some s => exact ⟨_, run_loadVar hn hc ⟨hr.1, rfl⟩, hr.2⟩
  cases x with
  | p n0 i =>
    simp only [loadA] at hl
    obtain ⟨q, hq, rfl⟩ := rx.ptr
    split at hl
    · rename_i cs hob
      have hro := (hH.ob n0 _ q hob hq).2.2
      simp only [RO] at hro
      obtain ⟨c, el, h1, h2, h3, h4⟩ := hro
      obtain ⟨y, hy, hr⟩ := fin (b := q.b) (x := q.o) (i := i) (cs := c.toList) (fun j y hj => by rw [cellsOf_at h1, h2, Nat.zero_add]; exact hj) (loadC_rel h3 hl)
      exact ⟨y, _, rfl, hy, hr⟩
    · rename_i s l z hob
      have hro := (hH.ob n0 _ q hob hq).2.2
      simp only [RO] at hro
      obtain ⟨h0, hs, c, el, h1, h2, h3, h4, h5⟩ := hro
      split at hl
      · rename_i d hd
        subst h0
        obtain ⟨g1, g2⟩ := h4.get hd
        obtain ⟨y, hy, hr⟩ := fin (b := q.b) (x := q.o + i / q.s * q.s) (i := i % q.s) (cs := ((c.toList.drop q.o).drop (i / q.s * q.s)).take q.s) (fun j y hj => by
          rw [List.getElem?_take] at hj
          split at hj
          · rw [List.getElem?_drop, List.getElem?_drop] at hj
            rw [cellsOf_at h1, Nat.add_assoc]; exact hj
          · cases hj) (loadD_rel (RDs.cellsD g2) hl)
        have e1 : q.o + i / q.s * q.s + i % q.s = q.o + i := by
          have := Nat.div_add_mod i q.s
          rw [Nat.mul_comm] at this
          omega
        rw [e1] at hy
        exact ⟨y, _, rfl, hy, hr⟩
      · cases hl
    · cases hl
  | pe l i =>
    simp only [loadA] at hl
    obtain ⟨b, o0, rfl, h1, h2, h3, _⟩ := rx.pe
    obtain ⟨y, hy, hr⟩ := fin (b := b) (x := o0) (i := i) (cs := ((cellsOf M.w b).drop o0).take l.length) (fun j y hj => by
      rw [List.getElem?_take] at hj
      split at hj
      · rwa [List.getElem?_drop] at hj
      · cases hj) (loadC_rel h3 hl)
    exact ⟨y, _, rfl, hy, hr⟩
  | _ => simp [loadA] at hl
theorem sim_load (hG : GOk G M) (hE : ER I M e a.tmps) (hH : RH I M h) {t : TypeId} {x : Operand} {c : Opd} {n : Option Nat} (ho : o.op = .load t x) (hn : ldSz P t = some n) (hx : opd G x = some c) (hev : evOp (.load n c) e h k = some (v, h')) : Sims P I M k o a v h' := by
  have rx := opd_rel hG hE hx
  simp only [evOp] at hev
  split at hev
  · rename_i u hu
    simp only [Option.some.injEq, Prod.mk.injEq] at hev
    obtain ⟨rfl, rfl⟩ := hev
    obtain ⟨y, A, e1, e2, hr⟩ := loadA_rel hn hH rx hu
    refine Sims.calm hH ?_ hr
    simp only [execOp, ho, Instr.loadAt, e1, Instr.sureAddr, Sem.run_bind, Sem.run_pure, Result.andThen_ok, e2]
  · cases hev
/-! ### Maps -/
def KT (d : TypeDesc) (s : Bool) : Prop := match s with
  | true => d = .string
  | false => ∃ kd, d = .int kd
theorem keyT_spec {t : TypeId} {s : Bool} (hk : keyT P t = some s) : ∃ d, P.underlying t = some d ∧ KT d s := by
  unfold keyT at hk
  split at hk
  · rename_i kd hu
    simp only [Option.some.injEq] at hk; subst hk
    exact ⟨_, hu, kd, rfl⟩
  · rename_i hu
    simp only [Option.some.injEq] at hk; subst hk
    exact ⟨_, hu, rfl⟩
  · cases hk
def keyV : D → Value
  | .s x => .string x
  | .i k n => .int k n
  | _ => .nilIface
theorem keyV_rel {w : World} {fz : Nat → Nat} {x : D} {s : Bool} (hk : isKey s x = true) {v : Value} (r : RDc w fz x [v]) : v = keyV x := by
  cases x <;> cases s <;> simp [isKey] at hk <;> simpa [RDc, keyV] using r
theorem RV.key {x : D} {s : Bool} {u : Value} (r : RV I M (.d x) u) (hk : isKey s x = true) : u = keyV x := keyV_rel hk (r.dcell (by cases x <;> cases s <;> simp [isKey] at hk <;> rfl))
theorem keyEq_now {d : TypeDesc} {s : Bool} {w : World} {fz : Nat → Nat} (hd : KT d s) {x y : D} {b : Bool} (hx : isKey s x = true) {v : Value} (hy : RDc w fz y [v]) (h : keyEq x y = some b) : Instr.sameNow d (keyV x) v = some b := by
  unfold keyEq at h
  split at h
  · cases s with
    | false => simp [isKey] at hx
    | true =>
      have hd : d = .string := hd; subst hd
      simp only [RDc, List.cons.injEq, and_true] at hy
      subst hy
      simpa [keyV, Instr.sameNow] using h
  · rename_i k1 n1 k2 n2
    cases s with
    | true => simp [isKey] at hx
    | false =>
      obtain ⟨kd, rfl⟩ := hd
      simp only [RDc, List.cons.injEq, and_true] at hy
      subst hy
      cases hk : k1 == k2 with
      | false => simp [hk] at h
      | true =>
        simp only [hk, cond_true, Option.some.injEq] at h
        have : k1 = k2 := by simpa using hk
        simp [keyV, Instr.sameNow, this, h]
  · cases h
/-- A key is looked for. -/
theorem find_rel {d : TypeDesc} {s : Bool} (hd : KT d s) {x : D} (hx : isKey s x = true) : ∀ {ks : List D} {vs : List AV} {es : List MapEntry} {r : Option AV} (i : Nat), RDs M.w M.fz ks (es.map (·.key)) → RVl I M vs (es.map (·.val)) → lookA x ks vs = some r →
    match r with
    | none => Instr.findNow d (keyV x) es i = some none
    | some u => ∃ j y, Instr.findNow d (keyV x) es i = some (some (j, y)) ∧ RV1 I M u y
  | [], vs, es, r, i, h1, h2, h3 => by
    simp only [lookA, Option.some.injEq] at h3
    subst h3
    simp only [RDs] at h1
    have : es = [] := by simpa using h1
    subst this; rfl
  | y :: ks, [], es, r, i, h1, h2, h3 => by simp [lookA] at h3
  | y :: ks, u :: vs, [], r, i, h1, h2, h3 => by simp [RDs] at h1
  | y :: ks, u :: vs, m :: es, r, i, h1, h2, h3 => by
    simp only [List.map_cons, RDs] at h1
    simp only [List.map_cons, RVl] at h2
    obtain ⟨v1, r1, e1, n1, d1, t1⟩ := h1
    obtain ⟨v2, r2, e2, d2, t2⟩ := h2
    simp only [List.cons.injEq] at e1 e2
    obtain ⟨rfl, rfl⟩ := e1
    obtain ⟨rfl, rfl⟩ := e2
    simp only [lookA] at h3
    cases hq : keyEq x y with
    | none => simp [hq] at h3
    | some b =>
      have hs := keyEq_now hd hx d1 hq
      cases b with
      | true =>
        simp only [hq, Option.some.injEq] at h3
        subst h3
        exact ⟨i, m.val, by simp [Instr.findNow, hs], d2⟩
      | false =>
        simp only [hq] at h3
        have := find_rel hd hx (i + 1) t1 t2 h3
        cases r with
        | none => simpa [Instr.findNow, hs] using this
        | some u' => simpa [Instr.findNow, hs] using this
theorem checkKey_eq : ∃ n, ∀ (b : Bool) (t : TypeId) (v : Value), Instr.checkKey b 10000 t v = Instr.checkKey b (n + 1) t v := ⟨9999, fun _ _ _ => rfl⟩
theorem run_checkKey {w : World} {t : TypeId} {d : TypeDesc} {s b : Bool} {x : D} (hu : P.underlying t = some d) (hd : KT d s) (hx : isKey s x = true) : (Instr.checkKey b 10000 t (keyV x)).run P w = .ok () w := by
  obtain ⟨n, hn⟩ := checkKey_eq
  rw [hn]
  cases s with
  | true => have hd : d = .string := hd; subst hd; cases x <;> simp [isKey] at hx; simp only [Instr.checkKey, Sem.run_bind, run_underlying hu, Result.andThen_ok, keyV]; rfl
  | false => obtain ⟨kd, rfl⟩ := hd; cases x <;> simp [isKey] at hx; simp only [Instr.checkKey, Sem.run_bind, run_underlying hu, Result.andThen_ok, keyV]; rfl
theorem run_findKey {w : World} {t : TypeId} {d : TypeDesc} {es : List MapEntry} {v : Value} {r : Option (Nat × Value)} (hu : P.underlying t = some d) (hf : Instr.findNow d v es 0 = some r) : (Instr.findKey t v es).run P w = .ok r w := by
  simp only [Instr.findKey, Sem.run_bind, run_underlying hu, Result.andThen_ok, hf, Sem.run_pure]
theorem run_getObj {w : World} {b : Nat} {es : Array MapEntry} {ck : Nat} (hb : w.heap[b]? = some (.map es ck)) : (getObj b).run P w = .ok (.map es ck) w := by simp [getObj, Sem.run, hb]
theorem run_setObj {w : World} {b : Nat} {es : Array MapEntry} {ck : Nat} {ob : Obj} (hb : w.heap[b]? = some (.map es ck)) : (setObj b ob).run P w = .ok () { w with heap := w.heap.setIfInBounds b ob } := by simp [setObj, Sem.run, hb]
theorem zeroV_spec {t : TypeId} {x : AV} (hz : zeroV P t = some x) : ∃ i z, P.info? t = some i ∧ i.zero = some z ∧ ∀ (I : Inj) (M : Mem), RV1 I M x z := by
  unfold zeroV at hz
  split at hz
  · rename_i i hi
    split at hz
    · rename_i z hz'
      exact ⟨i, z, hi, hz', fun I M => ofV_rel z x hz⟩
    · cases hz
  · cases hz
theorem sim_look (hG : GOk G M) (hE : ER I M e a.tmps) (hH : RH I M h) {t kt el : TypeId} {x y : Operand} {cx cy : Opd} {ok s : Bool} {z : AV} (ho : o.op = .lookup t x y ok) (ht : P.underlying t = some (.map kt el)) (hz : zeroV P el = some z) (hk : keyT P kt = some s) (hx : opd G x = some cx) (hy : opd G y = some cy) (hev : evOp (.look s z cx cy ok) e h k = some (v, h')) : Sims P I M k o a v h' := by
  have rx := opd_rel hG hE hx
  have ry := opd_rel hG hE hy
  obtain ⟨d, hu, hd⟩ := keyT_spec hk
  obtain ⟨i, z0, hi, hz0, hzr⟩ := zeroV_spec hz
  simp only [evOp] at hev
  split at hev
  · rename_i key hkey
    rw [hkey] at ry
    cases hik : isKey s key with
    | false => simp [hik] at hev
    | true =>
      simp only [hik, cond_true] at hev
      have hyv := ry.key hik
      -- the answer, whatever the entries are
      have fin : ∀ (es : Array MapEntry) (ks : List D) (vs : List AV) (r : Option AV) (X : Value), a.eval x = X → ((X = .map none ∧ es = #[]) ∨ ∃ b ck, X = .map (some b) ∧ M.w.heap[b]? = some (.map es ck)) → RDs M.w M.fz ks (es.toList.map (·.key)) → RVl I M vs (es.toList.map (·.val)) → lookA key ks vs = some r →
          (match r with
            | some v => some (bif ok then .tu [v, .d (.b true)] else v, h)
            | none => some (bif ok then .tu [z, .d (.b false)] else z, h)) = some (v, h') → Sims P I M k o a v h' := by
        intro es ks vs r X hX hm h1 h2 h3 h4
        have hf := find_rel hd hik 0 h1 h2 h3
        have res : ∀ (y : Value) (u : AV) (b : Bool), RV1 I M u y → RV I M (bif ok then .tu [u, .d (.b b)] else u) (if ok = true then .tuple #[y, .bool b] else y) := by
          intro y u b hr
          cases ok with
          | false => simpa using hr.toRV
          | true => exact .inr ⟨_, _, rfl, rfl, _, _, rfl, hr, _, _, rfl, (RV.mkBool b).one (by simp), rfl⟩
        have run : ∀ (q : Option (Nat × Value)) (y : Value) (b : Bool), Instr.findNow d (keyV key) es.toList 0 = some q → (match q with | some (_, y') => y = y' ∧ b = true | none => y = z0 ∧ b = false) → (execOp a.eval o).run P M.w = .ok (.value (if ok = true then .tuple #[y, .bool b] else y)) M.w := by
          intro q y b hq hy'
          simp only [execOp, ho, hX, hyv, Sem.run_bind]
          unfold Instr.lookup
          rcases hm with ⟨rfl, rfl⟩ | ⟨b0, ck, rfl, hb⟩
          · simp only [Sem.run_bind, run_underlying ht, Result.andThen_ok, Sem.run_pure, run_checkKey hu hd hik, run_findKey hu hq]
            cases q with
            | some q => obtain ⟨j0, y0⟩ := q; obtain ⟨rfl, rfl⟩ := hy'; simp only [Sem.run_bind, Sem.run_pure, Result.andThen_ok]
            | none => obtain ⟨rfl, rfl⟩ := hy'; simp only [Sem.run_bind, run_zeroValue hi hz0, Sem.run_pure, Result.andThen_ok]
          · simp only [Sem.run_bind, run_underlying ht, Result.andThen_ok, run_getObj hb, Sem.run_pure, run_checkKey hu hd hik, run_findKey hu hq]
            cases q with
            | some q => obtain ⟨j0, y0⟩ := q; obtain ⟨rfl, rfl⟩ := hy'; simp only [Sem.run_bind, Sem.run_pure, Result.andThen_ok]
            | none => obtain ⟨rfl, rfl⟩ := hy'; simp only [Sem.run_bind, run_zeroValue hi hz0, Sem.run_pure, Result.andThen_ok]
        cases r with
        | some u =>
          obtain ⟨j, y', hf1, hf2⟩ := hf
          simp only [Option.some.injEq, Prod.mk.injEq] at h4
          obtain ⟨rfl, rfl⟩ := h4
          exact Sims.calm hH (run _ y' true hf1 ⟨rfl, rfl⟩) (res y' u true hf2)
        | none =>
          simp only [Option.some.injEq, Prod.mk.injEq] at h4
          obtain ⟨rfl, rfl⟩ := h4
          exact Sims.calm hH (run _ z0 false hf ⟨rfl, rfl⟩) (res z0 z false (hzr I M))
      generalize hvx : cx.ev e = vx at hev rx
      cases vx with
      | m n =>
        simp only at hev
        have := rx.cellOf rfl
        simp only [RVc] at this
        obtain ⟨q, hq, e1⟩ := this
        simp only [List.cons.injEq, and_true] at e1
        cases hob : h.get n with
        | none => simp [hob] at hev
        | some ob =>
          cases ob with
          | map ks vs =>
            have hro := (hH.ob n _ q hob hq).2.2
            simp only [RO] at hro
            obtain ⟨es, ck, h1, h2, h3, _⟩ := hro
            simp only [hob] at hev
            cases hl : lookA key ks vs with
            | none => simp [hl] at hev
            | some r =>
              simp only [hl] at hev
              refine fin es ks vs r _ e1 (.inr ⟨_, _, rfl, h1⟩) h2 h3 hl ?_
              cases r <;> exact hev
          | _ => simp [hob] at hev
      | mp ks vs =>
        simp only at hev
        have := rx.cellOf rfl
        simp only [RVc] at this
        obtain ⟨b, es, ck, e1, h0, h1, h2, h3, _⟩ := this
        simp only [List.cons.injEq, and_true] at e1
        cases hl : lookA key ks vs with
        | none => simp [hl] at hev
        | some r =>
          simp only [hl] at hev
          refine fin es ks vs r _ e1 (.inr ⟨_, _, rfl, h1⟩) h2 h3 hl ?_
          cases r <;> exact hev
      | nm =>
        simp only at hev
        have := rx.cellOf rfl
        simp only [RVc, List.cons.injEq, and_true] at this
        exact fin #[] [] [] none _ this (.inl ⟨rfl, rfl⟩) (by simp [RDs]) (by simp [RVl]) rfl hev
      | _ => simp at hev
  · cases hev
end
end Tm
/- Maps that are written. No statement of the seat is proved here. -/
namespace Tm
open Go
set_option linter.unusedVariables false
set_option linter.unusedSimpArgs false
section
variable {P : Program} {G : Nat → Option AV} {I : Inj} {M : Mem} {e : Env} {h h' : Heap} {a : Act} {k : Nat} {v : AV} {o : Oper}
theorem bytesEq (a b : ByteArray) : (a == b) = true ↔ a = b := by
  obtain ⟨x⟩ := a
  obtain ⟨y⟩ := b
  constructor
  · intro h
    have e : x = y := by simpa using (show (x == y) = true from h)
    rw [e]
  · intro h
    cases h
    show (x == x) = true
    simp
def Mem.setM (M : Mem) (b : Nat) (es : Array MapEntry) (ck : Nat) : Mem := ⟨{ M.w with heap := M.w.heap.setIfInBounds b (.map es ck) }, M.fz, M.lo⟩
theorem Born.same {es es' : Array MapEntry} {ck : Nat} (e : es'.toList.map (·.born) = es.toList.map (·.born)) (h : Born es ck) : Born es' ck := by
  unfold Born at h ⊢
  have hs : es'.size = es.size := by simpa using congrArg List.length e
  rw [e, hs]; exact h
theorem born_set {es : List MapEntry} {j : Nat} {e0 e1 : MapEntry} (h : es[j]? = some e0) (he : e1.born = e0.born := by rfl) : (es.set j e1).map (·.born) = es.map (·.born) := by
  rw [List.map_set]
  refine List.ext_getElem? fun i => ?_
  rw [List.getElem?_set]
  split
  · rename_i hji
    subst hji
    obtain ⟨hl, rfl⟩ := List.getElem?_eq_some_iff.1 h
    simp [hl, he]
  · rfl
theorem Born.push {es : Array MapEntry} {ck : Nat} {m : MapEntry} (hm : m.born = ck) (h : Born es ck) : Born (es.push m) (ck + 1) := by
  unfold Born at h ⊢
  obtain ⟨h1, rfl⟩ := h
  simp only [Array.toList_push, List.map_append, List.map_cons, List.map_nil, hm, h1, Array.size_push, List.range_succ]
  trivial
theorem map_set {n : Nat} {q : Pl} {ks ks' : List D} {vs vs' : List AV} {es es' : Array MapEntry} {ck : Nat} (ck' : Nat) (hH : RH I M h) (ha : h.get n = some (.map ks vs)) (hq : I n = some q) (hb : M.w.heap[q.b]? = some (.map es ck))
    (h1 : RDs M.w M.fz ks' (es'.toList.map (·.key))) (h2 : RVl I M vs' (es'.toList.map (·.val))) (h3 : Born es ck → Born es' ck') : Ext M (M.setM q.b es' ck') ∧ RH I (M.setM q.b es' ck') (h.set n (.map ks' vs')) := by
  obtain ⟨g1, g2, g3⟩ := hH.ob n _ q ha hq
  simp only [RO] at g3
  obtain ⟨es0, ck0, g5, _, _, g4, g6⟩ := g3
  rw [hb] at g5
  cases g5
  have hc : ∀ b, cellsOf (M.setM q.b es' ck').w b = cellsOf M.w b := by
    intro b
    unfold cellsOf Mem.setM
    simp only [Array.getElem?_setIfInBounds]
    by_cases hbb : q.b = b
    · subst hbb; rw [hb]; simp [g2]
    · simp [hbb]
  have hx : Ext M (M.setM q.b es' ck') := ⟨rfl, rfl, rfl, rfl, by simp [Mem.setM], fun b hb' => by simp only [Mem.setM, Array.getElem?_setIfInBounds]; rw [if_neg (by omega)], fun _ => Nat.le_refl _, fun _ _ => rfl, fun b => by rw [hc], fun b o h1 h2 => by
    simp only [Mem.setM, Array.getElem?_setIfInBounds]
    rw [if_neg (by rintro rfl; rw [hb] at h1; cases h1; simp [isRec] at h2)]; exact h1⟩
  refine ⟨hx, hH.mod ha hq hx (fun b hb' => ⟨by simp only [Mem.setM, Array.getElem?_setIfInBounds]; rw [if_neg (Ne.symm hb')], rfl⟩) (fun b => by rw [hc]; exact hH.wf b) ?_⟩
  simp only [RO]
  exact ⟨es', ck', by simp [Mem.setM, g2], h1.ext hx.e0, h2.ext hx (Le.refl I), g4, h3 g6⟩
theorem keyEq_true {x y : D} (h : keyEq x y = some true) : x = y := by
  unfold keyEq at h
  split at h
  · simp only [Option.some.injEq] at h; rw [(bytesEq _ _).1 h]
  · rename_i k1 n1 k2 n2
    cases hk : k1 == k2 with
    | false => simp [hk] at h
    | true =>
      simp only [hk, cond_true, Option.some.injEq, beq_iff_eq] at h
      have : k1 = k2 := by simpa using hk
      rw [h, this]
  · cases h
theorem run_stays {w : World} {x : D} {s : Bool} (hx : isKey s x = true) : (Instr.keyThatStays (keyV x) (keyV x)).run P w = .ok (keyV x) w := by
  have : ∀ n, Instr.sameBits n (keyV x) (keyV x) = true := by
    intro n
    cases x <;> cases s <;> simp [isKey] at hx <;> cases n <;> simp [keyV, Instr.sameBits, (bytesEq _ _).2 rfl]
  simp only [Instr.keyThatStays, this, if_true, Sem.run_pure]
theorem upd_rel {d : TypeDesc} {s : Bool} (hd : KT d s) {x : D} (hx : isKey s x = true) {u : AV} {val : Value} (hu : RV1 I M u val) : ∀ {ks : List D} {vs : List AV} {es : List MapEntry} {ks' : List D} {vs' : List AV} (i : Nat), RDs M.w M.fz ks (es.map (·.key)) → RVl I M vs (es.map (·.val)) → updA x u ks vs = some (ks', vs') →
    (∃ j e0, Instr.findNow d (keyV x) es i = some (some (i + j, e0.val)) ∧ es[j]? = some e0 ∧ e0.key = keyV x ∧ RDs M.w M.fz ks' ((es.set j { e0 with key := keyV x, val := val }).map (·.key)) ∧ RVl I M vs' ((es.set j { e0 with key := keyV x, val := val }).map (·.val))) ∨
    (Instr.findNow d (keyV x) es i = some none ∧ RDs M.w M.fz ks' (es.map (·.key) ++ [keyV x]) ∧ RVl I M vs' (es.map (·.val) ++ [val]))
  | [], [], es, ks', vs', i, h1, h2, h3 => by
    simp only [updA, Option.some.injEq, Prod.mk.injEq] at h3
    obtain ⟨rfl, rfl⟩ := h3
    simp only [RDs] at h1
    have : es = [] := by simpa using h1
    subst this
    refine .inr ⟨rfl, ?_, ?_⟩
    · simp only [List.map_nil, List.nil_append, RDs]
      refine ⟨_, _, rfl, by cases x <;> cases s <;> simp [isKey] at hx <;> rfl, ?_, rfl⟩
      cases x <;> cases s <;> simp [isKey] at hx <;> simp [RDc, keyV]
    · simp only [List.map_nil, List.nil_append, RVl]
      exact ⟨_, _, rfl, hu, rfl⟩
  | [], w :: vs, es, ks', vs', i, h1, h2, h3 => by simp [updA] at h3
  | y :: ks, [], es, ks', vs', i, h1, h2, h3 => by simp [updA] at h3
  | y :: ks, w :: vs, [], ks', vs', i, h1, h2, h3 => by simp [RDs] at h1
  | y :: ks, w :: vs, m :: es, ks', vs', i, h1, h2, h3 => by
    simp only [List.map_cons, RDs] at h1
    simp only [List.map_cons, RVl] at h2
    obtain ⟨v1, r1, e1, n1, d1, t1⟩ := h1
    obtain ⟨v2, r2, e2, d2, t2⟩ := h2
    simp only [List.cons.injEq] at e1 e2
    obtain ⟨rfl, rfl⟩ := e1
    obtain ⟨rfl, rfl⟩ := e2
    simp only [updA] at h3
    cases hq : keyEq x y with
    | none => simp [hq] at h3
    | some b =>
      have hs := keyEq_now hd hx d1 hq
      cases b with
      | true =>
        simp only [hq, Option.some.injEq, Prod.mk.injEq] at h3
        obtain ⟨rfl, rfl⟩ := h3
        have := keyEq_true hq
        subst this
        have hk : m.key = keyV x := keyV_rel hx d1
        refine .inl ⟨0, m, by simp [Instr.findNow, hs], by simp, hk, ?_, ?_⟩
        · simp only [List.set_cons_zero, List.map_cons, RDs]
          exact ⟨_, _, rfl, n1, by rw [← hk]; exact d1, t1⟩
        · simp only [List.set_cons_zero, List.map_cons, RVl]
          exact ⟨_, _, rfl, hu, t2⟩
      | false =>
        simp only [hq] at h3
        cases hr : updA x u ks vs with
        | none => simp [hr] at h3
        | some r =>
          obtain ⟨ks2, vs2⟩ := r
          simp only [hr, Option.some.injEq, Prod.mk.injEq] at h3
          obtain ⟨rfl, rfl⟩ := h3
          rcases upd_rel hd hx hu (i + 1) t1 t2 hr with ⟨j, e0, f1, f2, f3, f4, f5⟩ | ⟨f1, f2, f3⟩
          · refine .inl ⟨j + 1, e0, by simp [Instr.findNow, hs, f1]; omega, by simpa using f2, f3, ?_, ?_⟩
            · simp only [List.set_cons_succ, List.map_cons, RDs]; exact ⟨_, _, rfl, n1, d1, f4⟩
            · simp only [List.set_cons_succ, List.map_cons, RVl]; exact ⟨_, _, rfl, d2, f5⟩
          · refine .inr ⟨by simp [Instr.findNow, hs, f1], ?_, ?_⟩
            · simp only [List.map_cons, List.cons_append, RDs]; exact ⟨_, _, rfl, n1, d1, f2⟩
            · simp only [List.map_cons, List.cons_append, RVl]; exact ⟨_, _, rfl, d2, f3⟩
theorem sim_mupd (hG : GOk G M) (hE : ER I M e a.tmps) (hH : RH I M h) {t kt el : TypeId} {x y z : Operand} {cx cy cz : Opd} {s : Bool} (ho : o.op = .mapUpdate t x y z) (ht : P.underlying t = some (.map kt el)) (hk : keyT P kt = some s) (hx : opd G x = some cx) (hy : opd G y = some cy) (hz : opd G z = some cz) (hev : evOp (.mupd s cx cy cz) e h k = some (v, h')) : Sims P I M k o a v h' := by
  have rx := opd_rel hG hE hx
  have ry := opd_rel hG hE hy
  have rz := opd_rel hG hE hz
  obtain ⟨d, hu, hd⟩ := keyT_spec hk
  simp only [evOp] at hev
  split at hev
  · rename_i n key hn hkey
    rw [hn] at rx
    rw [hkey] at ry
    cases hik : isKey s key with
    | false => simp [hik] at hev
    | true =>
      simp only [hik, cond_true] at hev
      split at hev
      · rename_i ks vs lu hob hlu
        split at hev
        · rename_i ks' vs' hup
          simp only [Option.some.injEq, Prod.mk.injEq] at hev
          obtain ⟨rfl, rfl⟩ := hev
          have hyv := ry.key hik
          have := rx.cellOf rfl
          simp only [RVc] at this
          obtain ⟨q, hq, e1⟩ := this
          simp only [List.cons.injEq, and_true] at e1
          have hro := (hH.ob n _ q hob hq).2.2
          simp only [RO] at hro
          obtain ⟨es, ck, g1, g2, g3, _⟩ := hro
          have hz1 : RV1 I M (cz.ev e) (a.eval z) := rz.one (by intro l hl; rw [hl] at hlu; simp [cellsV] at hlu)
          have run : ∀ q0, Instr.findNow d (keyV key) es.toList 0 = some q0 → (execOp a.eval o).run P M.w = ((match q0 with
              | some (i, _) => (do
                let key' ← Instr.keyThatStays (((es[i]?).map (·.key)).getD (keyV key)) (keyV key)
                setObj q.b (.map (es.modify i fun e => { e with key := key', val := a.eval z }) ck))
              | none => setObj q.b (.map (es.push { key := keyV key, val := a.eval z, born := ck }) (ck + 1)) : Sem Unit).run P M.w).andThen fun _ w => .ok .skip w := by
            intro q0 hq0
            simp only [execOp, ho, e1, hyv, Sem.run_bind]
            unfold Instr.mapUpdate
            simp only [Sem.run_bind, run_underlying ht, Result.andThen_ok, run_getObj g1, run_checkKey hu hd hik, run_findKey hu hq0]
            cases q0 with
            | none => rfl
            | some q0 => rfl
          rcases upd_rel hd hik hz1 0 g2 g3 hup with ⟨j, e0, f1, f2, f3, f4, f5⟩ | ⟨f1, f2, f3⟩
          · have hes : (es.modify (0 + j) fun e => { e with key := keyV key, val := a.eval z }).toList = es.toList.set j { e0 with key := keyV key, val := a.eval z } := by
              apply List.ext_getElem?
              intro i
              have f2' : es[j]? = some e0 := by simpa using f2
              have hjl := (Array.getElem?_eq_some_iff.1 f2').1
              simp only [Array.getElem?_toList, Array.getElem?_modify, Nat.zero_add, List.getElem?_set, Array.length_toList]
              by_cases hji : j = i
              · subst hji; simp [hjl, (Array.getElem?_eq_some_iff.1 f2').2]
              · simp [hji]
            obtain ⟨hx', hH'⟩ := map_set (es' := es.modify (0 + j) fun e => { e with key := keyV key, val := a.eval z }) ck hH hob hq g1 (by rw [hes]; exact f4) (by rw [hes]; exact f5) (Born.same (by rw [hes]; exact born_set f2))
            refine ⟨undef, _, I, .inr ⟨?_, rfl⟩, hx', Le.refl I, fun x hx => .inl hx, hH', RV.undef⟩
            have e2 : ((es[0 + j]?).map (·.key)).getD (keyV key) = keyV key := by
              have : es[0 + j]? = some e0 := by simpa using f2
              rw [this]; simp [f3]
            rw [run _ f1]
            simp only [Sem.run_bind, e2, run_stays hik, Result.andThen_ok, run_setObj g1]
            rfl
          · obtain ⟨hx', hH'⟩ := map_set (es' := es.push { key := keyV key, val := a.eval z, born := ck }) (ck + 1) hH hob hq g1 (by simpa using f2) (by simpa using f3) (Born.push rfl)
            refine ⟨undef, _, I, .inr ⟨?_, rfl⟩, hx', Le.refl I, fun x hx => .inl hx, hH', RV.undef⟩
            rw [run _ f1]
            simp only [run_setObj g1, Result.andThen_ok]
            rfl
        · cases hev
      · cases hev
  · cases hev
theorem sim_del (hG : GOk G M) (hE : ER I M e a.tmps) (hH : RH I M h) {t kt el : TypeId} {x y : Operand} {cx cy : Opd} {s : Bool} {as : Array Operand} {ts : Array TypeId} (ho : o.op = .call { callee := .builtin .delete, args := as, argTypes := ts }) (has : as.toList = [x, y]) (hts : ts[0]? = some t) (ht : P.underlying t = some (.map kt el)) (hk : keyT P kt = some s) (hx : opd G x = some cx) (hy : opd G y = some cy) (hev : evOp (.del s cx cy) e h k = some (v, h')) : Sims P I M k o a v h' := by
  simp only [evOp] at hev
  cases hev
end
end Tm
