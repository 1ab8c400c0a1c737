/- Plain: an argument of type api.RegCode, read at the door. -/
import Derived.Test.YtdjldmpfginkdaaGreatDoorGEnv
import Derived.Test.YtdjldmpfginkdaaGreatDoorGHead
import Derived.ChangeArms
import Derived.Deep.Slices
namespace Go.Proofs.YtdjldmpfginkdaaGreatDoor
open Go.RowKit Go.WideShapes Go.ChangeShapes Go.ChangeAt

/-- A struct's fields: types and offsets. -/
noncomputable def flds (t : TypeId) : Option (List (TypeId × Nat)) := match Tryz.prog.underlying t with
  | some (.struct fs) => some (fs.toList.map fun f => (f.type, f.offset))
  | _ => none
theorem f_Type : flds 33 = some [(3, 0), (9, 1), (3, 2), (31, 3)] := by kernel_rfl
theorem f_Value : flds 36 = some [(3, 0), (2, 1), (9, 2), (34, 3)] := by kernel_rfl
theorem f_Instr : flds 38 = some [(3, 0), (3, 1), (3, 2), (3, 3), (3, 4), (9, 5), (22, 6), (33, 7), (36, 11)] := by kernel_rfl
theorem f_Code : flds 26 = some [(3, 0), (22, 1), (23, 2), (24, 3)] := by kernel_rfl
theorem k_int : Tryz.prog.cellsOf 3 = 1 := by kernel_rfl
theorem k_i64 : Tryz.prog.cellsOf 2 = 1 := by kernel_rfl
theorem k_str : Tryz.prog.cellsOf 9 = 1 := by kernel_rfl
theorem k_ints : Tryz.prog.cellsOf 22 = 1 := by kernel_rfl
theorem k_Tys : Tryz.prog.cellsOf 31 = 1 := by kernel_rfl
theorem k_Vls : Tryz.prog.cellsOf 34 = 1 := by kernel_rfl
theorem k_Inss : Tryz.prog.cellsOf 23 = 1 := by kernel_rfl
theorem k_Eds : Tryz.prog.cellsOf 24 = 1 := by kernel_rfl
theorem k_Ty : Tryz.prog.cellsOf 33 = 4 := by kernel_rfl
theorem k_Vl : Tryz.prog.cellsOf 36 = 4 := by kernel_rfl
theorem k_Ins : Tryz.prog.cellsOf 38 = 15 := by kernel_rfl
theorem k_Code : Tryz.prog.cellsOf 26 = 4 := by kernel_rfl
theorem s_int : Tryz.prog.underlying 3 = some (.int .i64) := by kernel_rfl
theorem s_i64 : Tryz.prog.underlying 2 = some (.int .i64) := by kernel_rfl
theorem s_str : Tryz.prog.underlying 9 = some .string := by kernel_rfl
theorem s_ints : Tryz.prog.underlying 22 = some (.slice 3) := by kernel_rfl
theorem s_Tys : Tryz.prog.underlying 31 = some (.slice 33) := by kernel_rfl
theorem s_Vls : Tryz.prog.underlying 34 = some (.slice 36) := by kernel_rfl
theorem s_Inss : Tryz.prog.underlying 23 = some (.slice 38) := by kernel_rfl
theorem s_Eds : Tryz.prog.underlying 24 = some (.slice 153) := by kernel_rfl
section
variable {H : Type} {enc : TypeId × Value → H} {W : World}
/-- What the door reads. -/
def Trd (enc : TypeId × Value → H) (W : World) (fuel : Nat) (t : TypeId) (cs : List Value) : Prop := ∃ x, DataW.trod enc Tryz.prog W 0 (fun _ => true) true fuel t cs = some x
theorem trd_flds {fuel : Nat} {t : TypeId} {cs : List Value} {L : List (TypeId × Nat)} (hf : flds t = some L) (h : Trd enc W fuel t cs) :
    ∃ n, fuel = n + 1 ∧ cs.length = Tryz.prog.cellsOf t ∧ ∀ (i : Nat) (ty : TypeId) (off : Nat), L[i]? = some (ty, off) → Trd enc W n ty ((cs.drop off).take (Tryz.prog.cellsOf ty)) := by
  obtain ⟨x, h⟩ := h
  unfold flds at hf
  split at hf
  · rename_i fs hu
    simp only [Option.some.injEq] at hf
    subst hf
    obtain ⟨xs, n, hn, _, hl, hlen, hx⟩ := DataW.trod_struct hu h
    refine ⟨n, hn, hl, fun i ty off hi => ?_⟩
    rw [List.getElem?_map] at hi
    cases hg : fs.toList[i]? with
    | none => rw [hg] at hi; cases hi
    | some f =>
      rw [hg] at hi
      simp only [Option.map_some, Option.some.injEq, Prod.mk.injEq] at hi
      obtain ⟨rfl, rfl⟩ := hi
      have hg' : fs[i]? = some f := by simpa using hg
      have hi2 : i < xs.length := by rw [hlen]; exact (Array.getElem?_eq_some_iff.1 hg').1
      exact ⟨xs[i], by rw [hx i f hg', List.getElem?_eq_getElem hi2]⟩
  · cases hf
theorem trd_int {fuel : Nat} {t : TypeId} {cs : List Value} (ht : Tryz.prog.underlying t = some (.int .i64)) (h : Trd enc W fuel t cs) : ∃ n, cs = [.int .i64 n] ∧ inI n := by
  obtain ⟨x, h⟩ := h
  obtain ⟨n, h1, _, h2⟩ := DataW.trod_int ht h
  exact ⟨n, h1, inI_of_wf h2⟩
theorem trd_str {fuel : Nat} {cs : List Value} (h : Trd enc W fuel 9 cs) : ∃ s : ByteArray, cs = [.string s] ∧ s.size ≤ maxLen := by
  obtain ⟨x, h⟩ := h
  obtain ⟨s, h1, _, h2⟩ := DataW.trod_string s_str h
  exact ⟨s, h1, h2⟩
/-- A slice, element by element. -/
theorem trd_slice {fuel : Nat} {t e : TypeId} {cs : List Value} (ht : Tryz.prog.underlying t = some (.slice e)) (h : Trd enc W fuel t cs) :
    ∃ (A : Option Addr) (len cap : Nat), cs = [.slice A len cap] ∧ len ≤ cap ∧ (A = none → cap = 0) ∧ ∃ m, fuel = m + 1 ∧ ∀ i, i < len → ∃ (a : Addr) (cs' : List Value), A = some a ∧ Trd enc W m e cs' ∧ cs'.length = Tryz.prog.cellsOf e ∧ ∀ j, j < Tryz.prog.cellsOf e → W.cell? ((a.add (i * Tryz.prog.cellsOf e)).add j) = cs'[j]? := by
  obtain ⟨x, h⟩ := h
  cases fuel with
  | zero => simp [DataW.trod] at h
  | succ m =>
  rcases DataW.trod_slice ht h with ⟨rfl, _⟩ | ⟨a, len, cap, elems, rest, n, hn, rfl, _, _, hl, _, hlen, hel, _⟩
  · exact ⟨none, 0, 0, rfl, Nat.le_refl _, fun _ => rfl, m, rfl, fun i hi => by omega⟩
  · obtain rfl : m = n := by omega
    refine ⟨some a, len, cap, rfl, hl, (fun h => by cases h), m, rfl, fun i hi => ?_⟩
    have h1 := hel i hi
    rw [List.getElem?_eq_getElem (by omega)] at h1
    obtain ⟨cs', h2, h3⟩ := Option.bind_eq_some_iff.1 h1
    obtain ⟨_, h4, h5⟩ := World.cells?_some h2
    exact ⟨a, cs', rfl, ⟨_, h3⟩, h4, h5⟩
theorem one_of {cs : List Value} {off n : Nat} (h : cs.length = n) (ho : off < n) : ∃ c, cs[off]? = some c ∧ (cs.drop off).take 1 = [c] := by
  have hlt : off < cs.length := by omega
  refine ⟨cs[off], List.getElem?_eq_getElem hlt, ?_⟩
  rw [List.drop_eq_getElem_cons hlt]
  rfl
theorem cell_lt {a : Addr} {v : Value} (h : W.cell? a = some v) : a.block < W.heap.size ∧ a.spot = none := by
  refine ⟨?_, World.cell?_spot h⟩
  rcases Nat.lt_or_ge a.block W.heap.size with hlt | hge
  · exact hlt
  · simp [World.cell?, Array.getElem?_eq_none hge] at h
theorem add0 (a : Addr) : a.add 0 = a := by simp [Addr.add]
instance : Inhabited Ty := ⟨⟨0, ⟨#[]⟩, 0, []⟩⟩
instance : Inhabited Vl := ⟨⟨0, 0, ⟨#[]⟩, []⟩⟩
theorem list4 {α : Type} {l : List α} (h : l.length = 4) : ∃ a b c d, l = [a, b, c, d] := by
  match l, h with
  | [a, b, c, d], _ => exact ⟨a, b, c, d, rfl⟩
theorem oks_of {l : List Ty} (h : ∀ t ∈ l, t.ok) : Ty.oks l := by
  induction l with
  | nil => rw [Ty.oks]; trivial
  | cons t l ih =>
    rw [Ty.oks]
    exact ⟨h t List.mem_cons_self, ih fun x hx => h x (List.mem_cons_of_mem _ hx)⟩
theorem trd_ty : ∀ (fuel : Nat) (cs : List Value), Trd enc W fuel 33 cs →
    ∃ (t : Ty) (A : Option Addr) (c : Nat), cs = [.int .i64 t.kind, .string t.name, .int .i64 t.index, .slice A t.args.length c] ∧ IsTy W 0 W.heap.size t (.agg #[.int .i64 t.kind, .string t.name, .int .i64 t.index, .slice A t.args.length c]) ∧ t.ok := by
  intro fuel
  induction fuel using Nat.strongRecOn with
  | _ fuel ih =>
  intro cs h
  obtain ⟨n, rfl, hl, hf⟩ := trd_flds f_Type h
  rw [k_Ty] at hl
  obtain ⟨c0, c1, c2, c3, rfl⟩ := list4 hl
  have h0 := hf 0 _ _ rfl
  have h1 := hf 1 _ _ rfl
  have h2 := hf 2 _ _ rfl
  have h3 := hf 3 _ _ rfl
  rw [k_int] at h0 h2
  rw [k_str] at h1
  rw [k_Tys] at h3
  obtain ⟨k, e0, hk⟩ := trd_int s_int h0
  obtain ⟨nm, e1, _⟩ := trd_str h1
  obtain ⟨ix, e2, hix⟩ := trd_int s_int h2
  obtain ⟨A, len, cap, e3, hlc, _, m, rfl, hel⟩ := trd_slice s_Tys h3
  simp at e0 e1 e2 e3
  subst e0 e1 e2 e3
  rw [k_Ty] at hel
  obtain ⟨f, hfs⟩ := Go.Deep.choose_lt (n := len) (p := fun i (t : Ty) => ∃ (a : Addr) (A' : Option Addr) (c' : Nat), A = some a ∧ (∀ j, j < 4 → W.cell? ((a.add (i * 4)).add j) = [Value.int .i64 t.kind, .string t.name, .int .i64 t.index, .slice A' t.args.length c'][j]?) ∧ IsTy W 0 W.heap.size t (.agg #[.int .i64 t.kind, .string t.name, .int .i64 t.index, .slice A' t.args.length c']) ∧ t.ok) (fun i hi => by
    obtain ⟨a, cs', hA, ht, _, hc⟩ := hel i hi
    obtain ⟨t, A', c', rfl, h5, h6⟩ := ih m (by omega) cs' ht
    exact ⟨t, a, A', c', hA, hc, h5, h6⟩)
  have hlen : ((List.range len).map f).length = len := by simp
  refine ⟨⟨k, nm, ix, (List.range len).map f⟩, A, cap, by simp, IsTy.mk_ ⟨A, cap, by simp, by rw [hlen]; exact hlc, ?_⟩, ?_⟩
  · rcases Nat.eq_zero_or_pos len with h0 | h0
    · exact .inl (by rw [hlen]; exact h0)
    · obtain ⟨a, A', c', rfl, hc, _, _⟩ := hfs 0 h0
      have hc0 := hc 0 (by decide)
      rw [Nat.zero_mul, add0, add0] at hc0
      have h5 := cell_lt hc0
      have hsp := h5.2
      obtain ⟨g, o, sp⟩ := a
      obtain rfl : sp = none := hsp
      refine .inr ⟨g, o, rfl, Nat.zero_le _, h5.1, IsTys.of_all fun j hj => ?_⟩
      rw [hlen] at hj
      obtain ⟨a, A', c', ha, hc, h6, _⟩ := hfs j hj
      simp only [Option.some.injEq] at ha
      subst ha
      simp only [add_plain] at hc
      rw [List.getElem_map, List.getElem_range]
      exact ⟨_, _, _, _, hc 0 (by decide), hc 1 (by decide), hc 2 (by decide), hc 3 (by decide), h6⟩
  · rw [Ty.ok]
    refine ⟨hk, hix, oks_of fun t ht => ?_⟩
    obtain ⟨i, hi, rfl⟩ := List.mem_map.1 ht
    obtain ⟨_, _, _, _, _, _, h7⟩ := hfs i (List.mem_range.1 hi)
    exact h7
theorem vls_of_all {B g : Nat} : ∀ {ts : List Vl} {o : Nat}, (∀ (j : Nat) (hj : j < ts.length), ∃ v0 v1 v2 v3, W.cell? ⟨g, o + j * 4, none⟩ = some v0 ∧ W.cell? ⟨g, o + j * 4 + 1, none⟩ = some v1 ∧ W.cell? ⟨g, o + j * 4 + 2, none⟩ = some v2 ∧ W.cell? ⟨g, o + j * 4 + 3, none⟩ = some v3 ∧ IsVl W B ts[j] (.agg #[v0, v1, v2, v3])) → IsVls W B ts g o
  | [], o, _ => by unfold IsVls; trivial
  | t :: ts, o, h => by
    unfold IsVls
    obtain ⟨v0, v1, v2, v3, c0, c1, c2, c3, ht⟩ := h 0 (by simp)
    refine ⟨⟨v0, v1, v2, v3, by simpa using c0, by simpa using c1, by simpa using c2, by simpa using c3, ht⟩, vls_of_all fun j hj => ?_⟩
    have := h (j + 1) (by simpa using hj)
    have e : o + 4 + j * 4 = o + (j + 1) * 4 := by omega
    rw [e]
    simpa using this
theorem trd_vl : ∀ (fuel : Nat) (cs : List Value), Trd enc W fuel 36 cs →
    ∃ (t : Vl) (A : Option Addr) (c : Nat), cs = [.int .i64 t.kind, .int .i64 t.num, .string t.str, .slice A t.elems.length c] ∧ IsVl W W.heap.size t (.agg #[.int .i64 t.kind, .int .i64 t.num, .string t.str, .slice A t.elems.length c]) := by
  intro fuel
  induction fuel using Nat.strongRecOn with
  | _ fuel ih =>
  intro cs h
  obtain ⟨n, rfl, hl, hf⟩ := trd_flds f_Value h
  rw [k_Vl] at hl
  obtain ⟨c0, c1, c2, c3, rfl⟩ := list4 hl
  have h0 := hf 0 _ _ rfl
  have h1 := hf 1 _ _ rfl
  have h2 := hf 2 _ _ rfl
  have h3 := hf 3 _ _ rfl
  rw [k_int] at h0
  rw [k_i64] at h1
  rw [k_str] at h2
  rw [k_Vls] at h3
  obtain ⟨k, e0, _⟩ := trd_int s_int h0
  obtain ⟨nu, e1, _⟩ := trd_int s_i64 h1
  obtain ⟨st, e2, hst⟩ := trd_str h2
  obtain ⟨A, len, cap, e3, hlc, _, m, rfl, hel⟩ := trd_slice s_Vls h3
  simp at e0 e1 e2 e3
  subst e0 e1 e2 e3
  rw [k_Vl] at hel
  obtain ⟨f, hfs⟩ := Go.Deep.choose_lt (n := len) (p := fun i (t : Vl) => ∃ (a : Addr) (A' : Option Addr) (c' : Nat), A = some a ∧ (∀ j, j < 4 → W.cell? ((a.add (i * 4)).add j) = [Value.int .i64 t.kind, .int .i64 t.num, .string t.str, .slice A' t.elems.length c'][j]?) ∧ IsVl W W.heap.size t (.agg #[.int .i64 t.kind, .int .i64 t.num, .string t.str, .slice A' t.elems.length c'])) (fun i hi => by
    obtain ⟨a, cs', hA, ht, _, hc⟩ := hel i hi
    obtain ⟨t, A', c', rfl, h5⟩ := ih m (by omega) cs' ht
    exact ⟨t, a, A', c', hA, hc, h5⟩)
  have hlen : ((List.range len).map f).length = len := by simp
  refine ⟨⟨k, nu, st, (List.range len).map f⟩, A, cap, by simp, ?_⟩
  unfold IsVl
  refine ⟨A, cap, by simp, hst, ?_⟩
  rcases Nat.eq_zero_or_pos len with h0 | h0
  · exact .inl (by rw [hlen]; exact h0)
  · obtain ⟨a, A', c', rfl, hc, _⟩ := hfs 0 h0
    have hc0 := hc 0 (by decide)
    rw [Nat.zero_mul, add0, add0] at hc0
    have h5 := cell_lt hc0
    have hsp := h5.2
    obtain ⟨g, o, sp⟩ := a
    obtain rfl : sp = none := hsp
    refine .inr ⟨g, o, rfl, h5.1, vls_of_all fun j hj => ?_⟩
    rw [hlen] at hj
    obtain ⟨a, A', c', ha, hc, h6⟩ := hfs j hj
    simp only [Option.some.injEq] at ha
    subst ha
    simp only [add_plain] at hc
    rw [List.getElem_map, List.getElem_range]
    exact ⟨_, _, _, _, hc 0 (by decide), hc 1 (by decide), hc 2 (by decide), hc 3 (by decide), h6⟩
theorem trd_ints {fuel : Nat} {cs : List Value} (h : Trd enc W fuel 22 cs) : ∃ (xs : List Int) (A : Option Addr) (c : Nat), cs = [.slice A xs.length c] ∧ IsInts W W.heap.size xs (.slice A xs.length c) := by
  obtain ⟨x, h⟩ := h
  rcases open_ints s_ints s_int k_int h with ⟨hv, _⟩ | ⟨a, len, cap, zs, hv, _, hl, hm, hz, _, hcell, _⟩
  · exact ⟨[], none, 0, hv, IsInts.nil _ _⟩
  · have hz' : zs.length = cap := hz
    have hlen : (zs.take len).length = len := by rw [List.length_take]; omega
    have hsp : cap ≠ 0 → a.spot = none := fun h0 => by
      have h1 := hcell 0 (by omega)
      rw [add0] at h1
      exact (cell_lt h1).2
    refine ⟨zs.take len, some a, cap, by rw [hlen]; exact hv, some a, cap, by rw [hlen], by rw [hlen]; exact hl, hm, (fun h => by cases h), (fun b hb hc0 => (by cases hb; exact hsp hc0)), by simp [ints], ?_⟩
    by_cases h0 : len = 0
    · left; rw [hlen]; exact h0
    · right
      obtain ⟨g, o, sp⟩ := a
      obtain rfl : sp = none := hsp (by omega)
      have h1 := hcell 0 (by omega)
      rw [add0] at h1
      refine ⟨g, o, rfl, (cell_lt h1).1, fun j u hj => ?_⟩
      have hjl : j < (zs.take len).length := by
        have := (List.getElem?_eq_some_iff.1 hj).1
        simpa [ints] using this
      rw [hlen] at hjl
      have hcj := hcell j (by omega)
      rw [add_plain] at hcj
      rw [hcj]
      simp [ints, hjl] at hj
      obtain ⟨x, hx, rfl⟩ := hj
      simp [List.getD, hx]
theorem len15 {l : List Value} (h : l.length = 15) : ∃ a0 a1 a2 a3 a4 a5 a6 a7 a8 a9 a10 a11 a12 a13 a14, l = [a0, a1, a2, a3, a4, a5, a6, a7, a8, a9, a10, a11, a12, a13, a14] := by
  match l, h with
  | [a0, a1, a2, a3, a4, a5, a6, a7, a8, a9, a10, a11, a12, a13, a14], _ => exact ⟨_, _, _, _, _, _, _, _, _, _, _, _, _, _, _, rfl⟩
/-- The fifteen cells of an instruction. -/
theorem trd_ins {fuel : Nat} {cs : List Value} (h : Trd enc W fuel 38 cs) : ∃ (x : Ins) (y : Vl) (A : Option Addr) (c : Nat) (TA : Option Addr) (tc : Nat) (EA : Option Addr) (ec : Nat), cs = [.int .i64 x.op, .int .i64 x.dst, .int .i64 x.a, .int .i64 x.b, .int .i64 x.imm, .string x.name, .slice A x.args.length c, .int .i64 x.ty.kind, .string x.ty.name, .int .i64 x.ty.index, .slice TA x.ty.args.length tc, .int .i64 x.ck, .int .i64 x.ci, .string x.cs, .slice EA x.ce ec] ∧
    IsInts W W.heap.size x.args (.slice A x.args.length c) ∧ IsTy W 0 W.heap.size x.ty (.agg #[.int .i64 x.ty.kind, .string x.ty.name, .int .i64 x.ty.index, .slice TA x.ty.args.length tc]) ∧ IsVl W W.heap.size y (.agg #[.int .i64 x.ck, .int .i64 x.ci, .string x.cs, .slice EA x.ce ec]) ∧ x.ty.ok := by
  obtain ⟨n, rfl, hl, hf⟩ := trd_flds f_Instr h
  rw [k_Ins] at hl
  obtain ⟨a0, a1, a2, a3, a4, a5, a6, a7, a8, a9, a10, a11, a12, a13, a14, rfl⟩ := len15 hl
  have h0 := hf 0 _ _ rfl
  have h1 := hf 1 _ _ rfl
  have h2 := hf 2 _ _ rfl
  have h3 := hf 3 _ _ rfl
  have h4 := hf 4 _ _ rfl
  have h5 := hf 5 _ _ rfl
  have h6 := hf 6 _ _ rfl
  have h7 := hf 7 _ _ rfl
  have h8 := hf 8 _ _ rfl
  rw [k_int] at h0 h1 h2 h3 h4
  rw [k_str] at h5
  rw [k_ints] at h6
  rw [k_Ty] at h7
  rw [k_Vl] at h8
  obtain ⟨x0, e0, _⟩ := trd_int s_int h0
  obtain ⟨x1, e1, _⟩ := trd_int s_int h1
  obtain ⟨x2, e2, _⟩ := trd_int s_int h2
  obtain ⟨x3, e3, _⟩ := trd_int s_int h3
  obtain ⟨x4, e4, _⟩ := trd_int s_int h4
  obtain ⟨x5, e5, _⟩ := trd_str h5
  obtain ⟨x6, A, c, e6, hi⟩ := trd_ints h6
  obtain ⟨ty, TA, tc, e7, ht, htok⟩ := trd_ty _ _ h7
  obtain ⟨y, EA, ec, e8, hv⟩ := trd_vl _ _ h8
  simp at e0 e1 e2 e3 e4 e5 e6 e7 e8
  obtain ⟨rfl, rfl, rfl, rfl⟩ := e7
  obtain ⟨rfl, rfl, rfl, rfl⟩ := e8
  subst e0 e1 e2 e3 e4 e5 e6
  exact ⟨⟨x0, x1, x2, x3, x4, x5, x6, ty, y.kind, y.num, y.str, y.elems.length⟩, y, A, c, TA, tc, EA, ec, rfl, hi, ht, hv, htok⟩
instance : Inhabited Ins := ⟨⟨0, 0, 0, 0, 0, ⟨#[]⟩, [], default, 0, 0, ⟨#[]⟩, 0⟩⟩
/-- AN ARGUMENT OF TYPE api.RegCode. -/
theorem arg_code {v : Value} {d : DataW H} {ps : List MemPlace} (h : DataW.Trod enc Tryz.prog W 0 (fun _ => true) true 26 v d ps) :
    ∃ (q : Rc) (cls : Value) (IA : Option Addr) (ic : Nat) (DA : Option Addr) (dc : Nat), v = .agg #[.int .i64 q.params, cls, .slice IA q.instrs.length ic, .slice DA q.edits dc] ∧ IsInts W W.heap.size q.classes cls ∧ IsInsV W W.heap.size q.instrs (.slice IA q.instrs.length ic) ∧ ∀ x ∈ q.instrs, x.ty.ok := by
  obtain ⟨fuel, h⟩ := h
  have h' : Trd enc W fuel 26 v.cells.toList := ⟨_, h⟩
  obtain ⟨n, rfl, hl, hf⟩ := trd_flds f_Code h'
  rw [k_Code] at hl
  obtain ⟨cs, rfl⟩ : ∃ cs, v = .agg cs := by
    cases v <;> first | exact ⟨_, rfl⟩ | (simp [Value.cells] at hl)
  have hcs : (Value.agg cs).cells.toList = cs.toList := rfl
  rw [hcs] at hl hf
  obtain ⟨c0, c1, c2, c3, hc⟩ := list4 hl
  obtain rfl : cs = #[c0, c1, c2, c3] := by cases cs; simp_all
  have h0 := hf 0 _ _ rfl
  have h1 := hf 1 _ _ rfl
  have h2 := hf 2 _ _ rfl
  have h3 := hf 3 _ _ rfl
  rw [k_int] at h0
  rw [k_ints] at h1
  rw [k_Inss] at h2
  rw [k_Eds] at h3
  obtain ⟨p, e0, _⟩ := trd_int s_int h0
  obtain ⟨cl, CA, cc, e1, hcl⟩ := trd_ints h1
  obtain ⟨IA, len, ic, e2, hlc, _, m, _, hel⟩ := trd_slice s_Inss h2
  obtain ⟨DA, el, dc, e3, _⟩ := trd_slice s_Eds h3
  simp at e0 e1 e2 e3
  subst e0 e1 e2 e3
  rw [k_Ins] at hel
  obtain ⟨f, hfs⟩ := Go.Deep.choose_lt (n := len) (p := fun i (x : Ins) => ∃ (a : Addr) (y : Vl) (A : Option Addr) (c : Nat) (TA : Option Addr) (tc : Nat) (EA : Option Addr) (ec : Nat), IA = some a ∧ (∀ j, j < 15 → W.cell? ((a.add (i * 15)).add j) = [.int .i64 x.op, .int .i64 x.dst, .int .i64 x.a, .int .i64 x.b, .int .i64 x.imm, .string x.name, .slice A x.args.length c, .int .i64 x.ty.kind, .string x.ty.name, .int .i64 x.ty.index, .slice TA x.ty.args.length tc, .int .i64 x.ck, .int .i64 x.ci, .string x.cs, .slice EA x.ce ec][j]?) ∧
      IsInts W W.heap.size x.args (.slice A x.args.length c) ∧ IsTy W 0 W.heap.size x.ty (.agg #[.int .i64 x.ty.kind, .string x.ty.name, .int .i64 x.ty.index, .slice TA x.ty.args.length tc]) ∧ IsVl W W.heap.size y (.agg #[.int .i64 x.ck, .int .i64 x.ci, .string x.cs, .slice EA x.ce ec]) ∧ x.ty.ok) (fun i hi => by
    obtain ⟨a, cs', hA, ht, _, hc⟩ := hel i hi
    obtain ⟨x, y, A, c, TA, tc, EA, ec, rfl, h5⟩ := trd_ins ht
    exact ⟨x, a, y, A, c, TA, tc, EA, ec, hA, hc, h5⟩)
  have hlen : ((List.range len).map f).length = len := by simp
  refine ⟨⟨p, cl, (List.range len).map f, el⟩, .slice CA cl.length cc, IA, ic, DA, dc, by simp, hcl, ⟨IA, ic, rfl, by rw [hlen]; exact hlc, ?_⟩, fun x hx => ?_⟩
  · rcases Nat.eq_zero_or_pos len with h0 | h0
    · exact .inl (by rw [hlen]; exact h0)
    · obtain ⟨a, _, _, _, _, _, _, _, rfl, hc, _⟩ := hfs 0 h0
      have hc0 := hc 0 (by decide)
      rw [Nat.zero_mul, add0, add0] at hc0
      have h5 := cell_lt hc0
      have hsp := h5.2
      obtain ⟨g, o, sp⟩ := a
      obtain rfl : sp = none := hsp
      refine .inr ⟨g, o, rfl, h5.1, fun j hj => ?_⟩
      rw [hlen] at hj
      obtain ⟨a, y, A, c, TA, tc, EA, ec, ha, hc, h6, h7, h8, _⟩ := hfs j hj
      simp only [Option.some.injEq] at ha
      subst ha
      simp only [add_plain] at hc
      rw [List.getElem_map, List.getElem_range]
      exact ⟨y, A, c, TA, tc, EA, ec, ⟨hc 0 (by decide), hc 1 (by decide), hc 2 (by decide), hc 3 (by decide), hc 4 (by decide), hc 5 (by decide), hc 6 (by decide), hc 7 (by decide), hc 8 (by decide), hc 9 (by decide), hc 10 (by decide), hc 11 (by decide), hc 12 (by decide), hc 13 (by decide), hc 14 (by decide)⟩, h6, h7, h8⟩
  · obtain ⟨i, hi, rfl⟩ := List.mem_map.1 hx
    obtain ⟨_, _, _, _, _, _, _, _, _, _, _, _, _, h9⟩ := hfs i (List.mem_range.1 hi)
    exact h9
end
end Go.Proofs.YtdjldmpfginkdaaGreatDoor
