/- The generator of register code: what lies in memory.
  The generator of register code: lemmas. -/
import Derived.Test.YtdjldmpfginkdaaGreatDoorGUses
import Derived.Test.YtdjldmpfginkdaaGreatDoorGRegD
import Derived.Deep.CutRange
import Derived.Deep.CutBlock
namespace Go.Proofs.YtdjldmpfginkdaaGreatDoor
open Go.RowKit

theorem info_instr : (Tryz.prog.info? 38).map (fun i => (i.zero, i.size, i.bytes)) = some (some (.agg #[.int .i64 0, .int .i64 0, .int .i64 0, .int .i64 0, .int .i64 0, .string ⟨#[]⟩, .slice none 0 0, .int .i64 0, .string ⟨#[]⟩, .int .i64 0, .slice none 0 0, .int .i64 0, .int .i64 0, .string ⟨#[]⟩, .slice none 0 0]), 15, 192) := by kernel_rfl
/-- Rows of Int that stand whole are kept. -/
def KeepI (W W' : World) : Prop := ∀ (g : Nat) (vs : List Value), RowV W g 3 vs → RowV W' g 3 vs
theorem KeepI.trans {W W' W'' : World} (h : KeepI W W') (h' : KeepI W' W'') : KeepI W W'' := fun g vs hr => h' g vs (h g vs hr)
theorem KeepI.below {W W' : World} (h : Below W.heap.size W W') : KeepI W W' := fun _ _ hr => hr.below h
theorem KeepI.grown {W W' : World} {b : Nat} {cs : Array Value} {T : TypeId} {f : Nat × Nat} (hg : W.grownBy W' (some b)) (hb : W.heap[b]? = some (.cells cs T f)) (hT : T ≠ 3) : KeepI W W' := fun g vs hr => hr.keep (hg.block g hr.lt (fun e => by
  cases e
  unfold RowV at hr
  rw [hb] at hr
  cases hr
  exact hT rfl))
theorem KeepI.grownN {W W' : World} (hg : W.grownBy W' none) : KeepI W W' := fun g vs hr => hr.keep (hg.block g hr.lt (by simp))
theorem KeepI.set {W : World} {b : Nat} {cs : Array Value} {T : TypeId} {f : Nat × Nat} (hb : W.heap[b]? = some (.cells cs T f)) (hT : T ≠ 3) (i : Nat) (u : Value) : KeepI W (W.setCell ⟨b, i, none⟩ u) := fun g vs hr => hr.keep (Below.heap_setCell _ _ _ _ (by
  show g ≠ b
  intro e
  subst e
  unfold RowV at hr
  rw [hb] at hr
  cases hr
  exact hT rfl))
theorem KeepI.tape {W W' : World} {sb K : Nat} (ht : TapeOk W sb K) (hg : W.grownBy W' (some sb)) : KeepI W W' := by
  obtain ⟨A, n, c, k, xs, h1, _⟩ := ht
  exact KeepI.grown hg h1 (by decide)
/-- The arguments of an instruction. -/
def ArgsAt (W : World) (args : List Int) (v : Value) : Prop := (args = [] ∧ v = .slice none 0 0) ∨ ∃ g, v = .slice (some ⟨g, 0, none⟩) args.length args.length ∧ RowV W g 3 (ints args)
theorem ArgsAt.keep {W W' : World} {args : List Int} {v : Value} (h : ArgsAt W args v) (hk : KeepI W W') : ArgsAt W' args v := by
  rcases h with h | ⟨g, hv, hr⟩
  · exact .inl h
  · exact .inr ⟨g, hv, hk g _ hr⟩
/-- The fifteen cells of an instruction that the generator makes. -/
def gcell (op dst a b imm : Int) (nm : ByteArray) (av : Value) (ck ci : Int) (cs : ByteArray) : Array Value := #[.int .i64 op, .int .i64 dst, .int .i64 a, .int .i64 b, .int .i64 imm, .string nm, av, .int .i64 0, .string ⟨#[]⟩, .int .i64 0, .slice none 0 0, .int .i64 ck, .int .i64 ci, .string cs, .slice none 0 0]
/-- The box of an instruction in the making. -/
def XG (xb : Nat) (op dst a b imm : Int) (nm : ByteArray) (av : Value) (ck ci : Int) (cs : ByteArray) (W : World) : Prop := W.heap[xb]? = some (.cells (gcell op dst a b imm nm av ck ci cs) 38 (0, 0))
section
variable {xb : Nat} {op dst a b imm ck ci : Int} {nm cs : ByteArray} {av : Value} {W W' : World}
theorem XG.lt (h : XG xb op dst a b imm nm av ck ci cs W) : xb < W.heap.size := (Array.getElem?_eq_some_iff.1 h).1
theorem XG.keep (h : XG xb op dst a b imm nm av ck ci cs W) (hk : W'.heap[xb]? = W.heap[xb]?) : XG xb op dst a b imm nm av ck ci cs W' := hk.trans h
theorem XG.grown (h : XG xb op dst a b imm nm av ck ci cs W) {sb : Nat} (hg : W.grownBy W' (some sb)) (hne : xb ≠ sb) : XG xb op dst a b imm nm av ck ci cs W' := h.keep (hg.block xb h.lt (fun e => hne (Option.some.inj e)))
theorem XG.below (h : XG xb op dst a b imm nm av ck ci cs W) (hb : Below W.heap.size W W') : XG xb op dst a b imm nm av ck ci cs W' := h.keep (hb.block xb h.lt)
theorem XG.s0 (h : XG xb op dst a b imm nm av ck ci cs W) (v : Int) : XG xb v dst a b imm nm av ck ci cs (W.setCell ⟨xb, 0, none⟩ (.int .i64 v)) := heap_setCell_same W xb 0 _ _ _ h
theorem XG.s1 (h : XG xb op dst a b imm nm av ck ci cs W) (v : Int) : XG xb op v a b imm nm av ck ci cs (W.setCell ⟨xb, 1, none⟩ (.int .i64 v)) := heap_setCell_same W xb 1 _ _ _ h
theorem XG.s2 (h : XG xb op dst a b imm nm av ck ci cs W) (v : Int) : XG xb op dst v b imm nm av ck ci cs (W.setCell ⟨xb, 2, none⟩ (.int .i64 v)) := heap_setCell_same W xb 2 _ _ _ h
theorem XG.s3 (h : XG xb op dst a b imm nm av ck ci cs W) (v : Int) : XG xb op dst a v imm nm av ck ci cs (W.setCell ⟨xb, 3, none⟩ (.int .i64 v)) := heap_setCell_same W xb 3 _ _ _ h
theorem XG.s4 (h : XG xb op dst a b imm nm av ck ci cs W) (v : Int) : XG xb op dst a b v nm av ck ci cs (W.setCell ⟨xb, 4, none⟩ (.int .i64 v)) := heap_setCell_same W xb 4 _ _ _ h
theorem XG.s5 (h : XG xb op dst a b imm nm av ck ci cs W) (v : ByteArray) : XG xb op dst a b imm v av ck ci cs (W.setCell ⟨xb, 5, none⟩ (.string v)) := heap_setCell_same W xb 5 _ _ _ h
theorem XG.s6 (h : XG xb op dst a b imm nm av ck ci cs W) (v : Value) : XG xb op dst a b imm nm v ck ci cs (W.setCell ⟨xb, 6, none⟩ v) := heap_setCell_same W xb 6 _ _ _ h
theorem XG.sc (h : XG xb op dst a b imm nm av ck ci cs W) (k i : Int) (s : ByteArray) : XG xb op dst a b imm nm av k i s ((((W.setCell ⟨xb, 11, none⟩ (.int .i64 k)).setCell ⟨xb, 12, none⟩ (.int .i64 i)).setCell ⟨xb, 13, none⟩ (.string s)).setCell ⟨xb, 14, none⟩ (.slice none 0 0)) :=
  heap_setCell_same _ xb 14 _ _ _ (heap_setCell_same _ xb 13 _ _ _ (heap_setCell_same _ xb 12 _ _ _ (heap_setCell_same W xb 11 _ _ _ h)))
theorem XG.free (h : XG xb op dst a b imm nm av ck ci cs W) (i : Nat) : W.frozen? ⟨xb, i, none⟩ = false := by simp [World.frozen?, show W.heap[xb]? = _ from h]
theorem XG.cell (h : XG xb op dst a b imm nm av ck ci cs W) (i : Nat) : W.cell? ⟨xb, i, none⟩ = (gcell op dst a b imm nm av ck ci cs)[i]? := cell_of_row _ _ _ _ _ _ h
theorem XG.cells7 (h : XG xb op dst a b imm nm av ck ci cs W) : W.cell? ⟨xb, 0, none⟩ = some (.int .i64 op) ∧ W.cell? ⟨xb, 1, none⟩ = some (.int .i64 dst) ∧ W.cell? ⟨xb, 2, none⟩ = some (.int .i64 a) ∧ W.cell? ⟨xb, 3, none⟩ = some (.int .i64 b) ∧ W.cell? ⟨xb, 4, none⟩ = some (.int .i64 imm) ∧ W.cell? ⟨xb, 5, none⟩ = some (.string nm) ∧ W.cell? ⟨xb, 6, none⟩ = some av :=
  ⟨h.cell 0, h.cell 1, h.cell 2, h.cell 3, h.cell 4, h.cell 5, h.cell 6⟩
theorem XG.cellsC (h : XG xb op dst a b imm nm av ck ci cs W) : W.cell? ⟨xb, 11, none⟩ = some (.int .i64 ck) ∧ W.cell? ⟨xb, 12, none⟩ = some (.int .i64 ci) ∧ W.cell? ⟨xb, 13, none⟩ = some (.string cs) ∧ W.cell? ⟨xb, 14, none⟩ = some (.slice none 0 0) :=
  ⟨h.cell 11, h.cell 12, h.cell 13, h.cell 14⟩
theorem XG.new (W : World) (op : Int) : XG W.heap.size op 0 0 0 0 ⟨#[]⟩ (.slice none 0 0) 0 0 ⟨#[]⟩ (W.alloc (.cells (gcell op 0 0 0 0 ⟨#[]⟩ (.slice none 0 0) 0 0 ⟨#[]⟩) 38)) := blk_new _ _
end
/-- What the generator has made of one instruction. -/
structure GI where
  op : Int
  dst : Int
  a : Int
  b : Int
  imm : Int
  nm : ByteArray
  args : List Int
  ck : Int
  ci : Int
  cs : ByteArray
def GI.ins (x : GI) : Ins := ⟨x.op, x.dst, x.a, x.b, x.imm, x.nm, x.args, zeroTy, x.ck, x.ci, x.cs, 0⟩
def GI.okk (x : GI) : Prop := x.args.length ≤ 2 ∧ x.cs.size ≤ 2
/-- Behind the choice of the operation: the box holds some instruction. -/
def GX (w0 : World) (sb xb K : Nat) (W : World) : Prop := ∃ (x : GI) (av : Value), XG xb x.op x.dst x.a x.b x.imm x.nm av x.ck x.ci x.cs W ∧ ArgsAt W x.args av ∧ x.okk ∧ TapeOk W sb K ∧ w0.grownBy W (some sb)
/-- A row of instructions, cell by cell. -/
def Rows15 (W : World) (l : List GI) (xs : List Value) : Prop := xs.length = l.length * 15 ∧ ∀ (j : Nat) (x : GI), l[j]? = some x → x.okk ∧ ∃ av, ArgsAt W x.args av ∧ ∀ i, i < 15 → xs[j * 15 + i]? = (gcell x.op x.dst x.a x.b x.imm x.nm av x.ck x.ci x.cs)[i]?
theorem Rows15.nil (W : World) : Rows15 W [] [] := ⟨rfl, fun j x h => by simp at h⟩
theorem Rows15.keep {W W' : World} {l : List GI} {xs : List Value} (h : Rows15 W l xs) (hk : KeepI W W') : Rows15 W' l xs := ⟨h.1, fun j x hj => by
  obtain ⟨h1, av, h2, h3⟩ := h.2 j x hj
  exact ⟨h1, av, h2.keep hk, h3⟩⟩
theorem gcell_size (op dst a b imm : Int) (nm : ByteArray) (av : Value) (ck ci : Int) (cs : ByteArray) : (gcell op dst a b imm nm av ck ci cs).size = 15 := rfl
theorem Rows15.add {W : World} {l : List GI} {xs : List Value} (h : Rows15 W l xs) (x : GI) (av : Value) (hx : x.okk) (ha : ArgsAt W x.args av) : Rows15 W (l ++ [x]) (xs ++ (gcell x.op x.dst x.a x.b x.imm x.nm av x.ck x.ci x.cs).toList) := by
  have h0 : (gcell x.op x.dst x.a x.b x.imm x.nm av x.ck x.ci x.cs).toList.length = 15 := rfl
  refine ⟨by rw [List.length_append, h.1, h0, List.length_append, List.length_singleton]; omega, fun j y hj => ?_⟩
  rcases Nat.lt_or_ge j l.length with h1 | h1
  · rw [List.getElem?_append_left h1] at hj
    obtain ⟨h2, av', h3, h4⟩ := h.2 j y hj
    refine ⟨h2, av', h3, fun i hi => ?_⟩
    rw [List.getElem?_append_left (by rw [h.1]; omega)]
    exact h4 i hi
  · rw [List.getElem?_append_right h1] at hj
    have h2 : j - l.length = 0 := by
      rcases Nat.eq_zero_or_pos (j - l.length) with h3 | h3
      · exact h3
      · rw [List.getElem?_eq_none (by simp; omega)] at hj; cases hj
    rw [h2] at hj
    simp only [List.getElem?_cons_zero, Option.some.injEq] at hj
    subst hj
    refine ⟨hx, av, ha, fun i hi => ?_⟩
    rw [List.getElem?_append_right (by rw [h.1]; omega), h.1, show j * 15 + i - l.length * 15 = i by omega, Array.getElem?_toList]
theorem gcell_one {op dst a b imm : Int} {nm : ByteArray} {av : Value} {ck ci : Int} {cs : ByteArray} {W : World} {args : List Int} (h : ArgsAt W args av) : ∀ u ∈ (gcell op dst a b imm nm av ck ci cs).toList, u.oneCell' = true := by
  have hav : av.oneCell' = true := by
    rcases h with ⟨_, rfl⟩ | ⟨g, rfl, _⟩ <;> rfl
  intro u hu
  simp only [gcell, List.mem_cons, List.not_mem_nil, or_false] at hu
  rcases hu with rfl | rfl | rfl | rfl | rfl | rfl | rfl | rfl | rfl | rfl | rfl | rfl | rfl | rfl | rfl
  all_goals first | exact hav | rfl
/-- The finished row as a slice of instructions. -/
theorem Rows15.insl {W : World} {base : Nat} {l : List GI} {xs : List Value} {v : Value} (h : Rows15 W l xs) (ho : W.ownsRow base 38 15 v l.length xs) : IsInsl W W.heap.size (l.map GI.ins) v ∧ ∀ x ∈ l.map GI.ins, InsOk x ∧ x.args.length ≤ 2 := by
  constructor
  · rcases ho.2 with ⟨rfl, h0⟩ | ⟨g, cap, cur, rfl, hg, hh, hnc, hcm, hcs, ht⟩
    · have : l = [] := List.eq_nil_of_length_eq_zero h0
      subst this
      exact ⟨none, 0, rfl, Nat.le_refl _, .inl rfl⟩
    · refine ⟨some ⟨g, 0, none⟩, cap, by simp, by simpa using hnc, .inr ⟨g, 0, rfl, (Array.getElem?_eq_some_iff.1 hh).1, fun j hj => ?_⟩⟩
      have hj' : j < l.length := by simpa using hj
      obtain ⟨hk, av, ha, hc⟩ := h.2 j _ (List.getElem?_eq_getElem hj')
      rw [List.getElem_map]
      generalize l[j] = x at *
      have hcell : ∀ i, i < 15 → W.cell? ⟨g, 0 + j * 15 + i, none⟩ = (gcell x.op x.dst x.a x.b x.imm x.nm av x.ck x.ci x.cs)[i]? := fun i hi => by
        rw [← hc i hi, Nat.zero_add]
        have h1 := ho.cellAt (j * 15 + i) (by omega)
        exact h1
      have hai : ∃ A c, av = .slice A x.args.length c ∧ IsInts W W.heap.size x.args (.slice A x.args.length c) := by
        rcases ha with ⟨h1, rfl⟩ | ⟨ga, rfl, hr⟩
        · rw [h1]
          exact ⟨none, 0, rfl, IsInts.nil _ _⟩
        · refine ⟨_, _, rfl, _, _, rfl, Nat.le_refl _, by unfold maxLen; have := hk.1; omega, by simp, by simp, ?_⟩
          exact Rd.blk (cs := (ints x.args).toArray) hr (by simp [ints]) hr.lt
      obtain ⟨A, c, rfl, hi⟩ := hai
      refine ⟨A, c, none, 0, none, 0, ⟨hcell 0 (by decide), hcell 1 (by decide), hcell 2 (by decide), hcell 3 (by decide), hcell 4 (by decide), hcell 5 (by decide), hcell 6 (by decide), hcell 7 (by decide), hcell 8 (by decide), hcell 9 (by decide), hcell 10 (by decide), hcell 11 (by decide), hcell 12 (by decide), hcell 13 (by decide), hcell 14 (by decide)⟩, hi, ?_⟩
      unfold GI.ins zeroTy
      exact ⟨none, 0, rfl, Nat.le_refl _, .inl rfl⟩
  · intro x hx
    simp only [List.mem_map] at hx
    obtain ⟨y, hy, rfl⟩ := hx
    obtain ⟨j, hj⟩ := List.mem_iff_getElem?.1 hy
    obtain ⟨hk, _⟩ := h.2 j y hj
    refine ⟨⟨?_, ?_, ?_, ?_⟩, hk.1⟩
    · show Ty.ok zeroTy
      unfold zeroTy
      rw [Ty.ok]
      exact ⟨by unfold inI; omega, by unfold inI; omega, by rw [Ty.oks]; trivial⟩
    · show Ty.size zeroTy ≤ _
      decide
    · show y.cs.size ≤ _
      have := hk.2
      omega
    · show y.args.length ≤ _
      have := hk.1
      omega
/-- What holds while an instruction is made. -/
structure GSt (w0 : World) (sb xb K : Nat) (op dst a b imm : Int) (nm : ByteArray) (args : List Int) (av : Value) (ck ci : Int) (cs : ByteArray) (W : World) : Prop where
  x : XG xb op dst a b imm nm av ck ci cs W
  ag : ArgsAt W args av
  tape : TapeOk W sb K
  gr : w0.grownBy W (some sb)
  lt : sb < xb
  le : w0.heap.size ≤ xb
section
variable {w0 : World} {sb xb K K' : Nat} {op dst a b imm ck ci : Int} {nm cs : ByteArray} {args : List Int} {av : Value} {W W' : World}
theorem RowV.set_ne {g c : Nat} {T : TypeId} {vs : List Value} (h : RowV W g T vs) (hne : g ≠ c) (i : Nat) (u : Value) : RowV (W.setCell ⟨c, i, none⟩ u) g T vs := h.keep (Below.heap_setCell _ _ _ _ (by show g ≠ c; exact hne))
theorem GSt.put (h : GSt w0 sb xb K op dst a b imm nm args av ck ci cs W) {op' dst' a' b' imm' ck' ci' : Int} {nm' cs' : ByteArray} (i : Nat) (u : Value) (hx : XG xb op' dst' a' b' imm' nm' av ck' ci' cs' (W.setCell ⟨xb, i, none⟩ u)) : GSt w0 sb xb K op' dst' a' b' imm' nm' args av ck' ci' cs' (W.setCell ⟨xb, i, none⟩ u) :=
  ⟨hx, h.ag.keep (KeepI.set h.x (by decide) i u), h.tape.keep (fun c hc => Below.heap_setCell _ _ _ _ (by have := h.lt; show c ≠ xb; omega)), grown_set_new h.gr h.le i u, h.lt, h.le⟩
theorem GSt.s0 (h : GSt w0 sb xb K op dst a b imm nm args av ck ci cs W) (v : Int) : GSt w0 sb xb K v dst a b imm nm args av ck ci cs (W.setCell ⟨xb, 0, none⟩ (.int .i64 v)) := h.put 0 _ (h.x.s0 v)
theorem GSt.s1 (h : GSt w0 sb xb K op dst a b imm nm args av ck ci cs W) (v : Int) : GSt w0 sb xb K op v a b imm nm args av ck ci cs (W.setCell ⟨xb, 1, none⟩ (.int .i64 v)) := h.put 1 _ (h.x.s1 v)
theorem GSt.s2 (h : GSt w0 sb xb K op dst a b imm nm args av ck ci cs W) (v : Int) : GSt w0 sb xb K op dst v b imm nm args av ck ci cs (W.setCell ⟨xb, 2, none⟩ (.int .i64 v)) := h.put 2 _ (h.x.s2 v)
theorem GSt.s3 (h : GSt w0 sb xb K op dst a b imm nm args av ck ci cs W) (v : Int) : GSt w0 sb xb K op dst a v imm nm args av ck ci cs (W.setCell ⟨xb, 3, none⟩ (.int .i64 v)) := h.put 3 _ (h.x.s3 v)
theorem GSt.s4 (h : GSt w0 sb xb K op dst a b imm nm args av ck ci cs W) (v : Int) : GSt w0 sb xb K op dst a b v nm args av ck ci cs (W.setCell ⟨xb, 4, none⟩ (.int .i64 v)) := h.put 4 _ (h.x.s4 v)
theorem GSt.s5 (h : GSt w0 sb xb K op dst a b imm nm args av ck ci cs W) (v : ByteArray) : GSt w0 sb xb K op dst a b imm v args av ck ci cs (W.setCell ⟨xb, 5, none⟩ (.string v)) := h.put 5 _ (h.x.s5 v)
theorem GSt.s6 {m : Nat} (h : GSt w0 sb xb K op dst a b imm nm args av ck ci cs W) {args' : List Int} {g : Nat} (hr : RowV W g 3 (ints args')) (hl : args'.length = m) (hne : g ≠ xb) : GSt w0 sb xb K op dst a b imm nm args' (.slice (some ⟨g, 0, none⟩) m m) ck ci cs (W.setCell ⟨xb, 6, none⟩ (.slice (some ⟨g, 0, none⟩) m m)) := by
  subst hl
  exact ⟨h.x.s6 _, .inr ⟨g, rfl, hr.set_ne hne _ _⟩, h.tape.keep (fun c hc => Below.heap_setCell _ _ _ _ (by have := h.lt; show c ≠ xb; omega)), grown_set_new h.gr h.le _ _, h.lt, h.le⟩
theorem GSt.s6a {m g : Nat} (h : GSt w0 sb xb K op dst a b imm nm args av ck ci cs W) (args' : List Int) (hl : args'.length = m) (hg : W.heap.size = g) : GSt w0 sb xb K op dst a b imm nm args' (.slice (some ⟨g, 0, none⟩) m m) ck ci cs ((W.setCell ⟨xb, 6, none⟩ (.slice (some ⟨g, 0, none⟩) m m)).alloc (.cells (ints args').toArray 3)) := by
  subst hl
  subst hg
  have hb := below_new (W.setCell ⟨xb, 6, none⟩ (.slice (some ⟨W.heap.size, 0, none⟩) args'.length args'.length)) (.cells (ints args').toArray 3)
  have hs : (W.setCell ⟨xb, 6, none⟩ (.slice (some ⟨W.heap.size, 0, none⟩) args'.length args'.length)).heap.size = W.heap.size := by simp [World.setCell]
  have h1 : TapeOk (W.setCell ⟨xb, 6, none⟩ (.slice (some ⟨W.heap.size, 0, none⟩) args'.length args'.length)) sb K := h.tape.keep (fun c hc => Below.heap_setCell _ _ _ _ (by have := h.lt; show c ≠ xb; omega))
  refine ⟨(h.x.s6 _).below hb, .inr ⟨W.heap.size, rfl, ?_⟩, h1.grown_new _, grown_trans (grown_set_new h.gr h.le _ _) (World.grownBy_alloc _ _ _), h.lt, h.le⟩
  have := blk_new (W.setCell ⟨xb, 6, none⟩ (.slice (some ⟨W.heap.size, 0, none⟩) args'.length args'.length)) (.cells (ints args').toArray 3)
  rw [hs] at this
  exact this
theorem GSt.s6n (h : GSt w0 sb xb K op dst a b imm nm args av ck ci cs W) : GSt w0 sb xb K op dst a b imm nm [] (.slice none 0 0) ck ci cs (W.setCell ⟨xb, 6, none⟩ (.slice none 0 0)) :=
  ⟨h.x.s6 _, .inl ⟨rfl, rfl⟩, h.tape.keep (fun c hc => Below.heap_setCell _ _ _ _ (by have := h.lt; show c ≠ xb; omega)), grown_set_new h.gr h.le _ _, h.lt, h.le⟩
theorem GSt.st (h : GSt w0 sb xb K op dst a b imm nm args av ck ci cs W) : GSt w0 sb xb K op dst a b imm nm args av ck ci cs ((((W.setCell ⟨xb, 7, none⟩ (.int .i64 0)).setCell ⟨xb, 8, none⟩ (.string ⟨#[]⟩)).setCell ⟨xb, 9, none⟩ (.int .i64 0)).setCell ⟨xb, 10, none⟩ (.slice none 0 0)) :=
  (((h.put 7 _ (heap_setCell_same W xb 7 _ _ _ h.x : XG xb op dst a b imm nm av ck ci cs _)).put 8 _ (heap_setCell_same _ xb 8 _ _ _ (heap_setCell_same W xb 7 _ _ _ h.x) : XG xb op dst a b imm nm av ck ci cs _)).put 9 _ (heap_setCell_same _ xb 9 _ _ _ (heap_setCell_same _ xb 8 _ _ _ (heap_setCell_same W xb 7 _ _ _ h.x)) : XG xb op dst a b imm nm av ck ci cs _)).put 10 _ (heap_setCell_same _ xb 10 _ _ _ (heap_setCell_same _ xb 9 _ _ _ (heap_setCell_same _ xb 8 _ _ _ (heap_setCell_same W xb 7 _ _ _ h.x))) : XG xb op dst a b imm nm av ck ci cs _)
theorem GSt.sc (h : GSt w0 sb xb K op dst a b imm nm args av ck ci cs W) (k i : Int) (s : ByteArray) : GSt w0 sb xb K op dst a b imm nm args av k i s ((((W.setCell ⟨xb, 11, none⟩ (.int .i64 k)).setCell ⟨xb, 12, none⟩ (.int .i64 i)).setCell ⟨xb, 13, none⟩ (.string s)).setCell ⟨xb, 14, none⟩ (.slice none 0 0)) :=
  (((h.put 11 _ (heap_setCell_same W xb 11 _ _ _ h.x : XG xb op dst a b imm nm av k ci cs _)).put 12 _ (heap_setCell_same _ xb 12 _ _ _ (heap_setCell_same W xb 11 _ _ _ h.x) : XG xb op dst a b imm nm av k i cs _)).put 13 _ (heap_setCell_same _ xb 13 _ _ _ (heap_setCell_same _ xb 12 _ _ _ (heap_setCell_same W xb 11 _ _ _ h.x)) : XG xb op dst a b imm nm av k i s _)).put 14 _ (h.x.sc k i s)
/-- All fifteen cells anew. -/
theorem GSt.all (h : GSt w0 sb xb K op dst a b imm nm args av ck ci cs W) (o' i' : Int) : GSt w0 sb xb K o' 0 0 0 i' ⟨#[]⟩ [] (.slice none 0 0) 0 0 ⟨#[]⟩ (((((((((((((((W.setCell ⟨xb, 0, none⟩ (.int .i64 o')).setCell ⟨xb, 1, none⟩ (.int .i64 0)).setCell ⟨xb, 2, none⟩ (.int .i64 0)).setCell ⟨xb, 3, none⟩ (.int .i64 0)).setCell ⟨xb, 4, none⟩ (.int .i64 i')).setCell ⟨xb, 5, none⟩ (.string ⟨#[]⟩)).setCell ⟨xb, 6, none⟩ (.slice none 0 0)).setCell ⟨xb, 7, none⟩ (.int .i64 0)).setCell ⟨xb, 8, none⟩ (.string ⟨#[]⟩)).setCell ⟨xb, 9, none⟩ (.int .i64 0)).setCell ⟨xb, 10, none⟩ (.slice none 0 0)).setCell ⟨xb, 11, none⟩ (.int .i64 0)).setCell ⟨xb, 12, none⟩ (.int .i64 0)).setCell ⟨xb, 13, none⟩ (.string ⟨#[]⟩)).setCell ⟨xb, 14, none⟩ (.slice none 0 0)) := ((((((((((h.s0 o').s1 0).s2 0).s3 0).s4 i').s5 ⟨#[]⟩).s6n).st).sc 0 0 ⟨#[]⟩))
theorem GSt.call (h : GSt w0 sb xb K op dst a b imm nm args av ck ci cs W) (hg : W.grownBy W' (some sb)) (ht : TapeOk W' sb K') : GSt w0 sb xb K' op dst a b imm nm args av ck ci cs W' :=
  ⟨h.x.grown hg (by have := h.lt; omega), h.ag.keep (KeepI.tape h.tape hg), ht, grown_trans h.gr hg, h.lt, h.le⟩
theorem GSt.alloc (h : GSt w0 sb xb K op dst a b imm nm args av ck ci cs W) (o : Obj) : GSt w0 sb xb K op dst a b imm nm args av ck ci cs (W.alloc o) :=
  ⟨h.x.below (below_new W o), h.ag.keep (KeepI.below (below_new W o)), h.tape.grown_new o, grown_trans h.gr (World.grownBy_alloc W o _), h.lt, h.le⟩
theorem GSt.gx (h : GSt w0 sb xb K op dst a b imm nm args av ck ci cs W) (h1 : args.length ≤ 2) (h2 : cs.size ≤ 2) (hK : K ≤ K') : GX w0 sb xb K' W :=
  ⟨⟨op, dst, a, b, imm, nm, args, ck, ci, cs⟩, av, h.x, h.ag, ⟨h1, h2⟩, h.tape.more hK, h.gr⟩
end
end Go.Proofs.YtdjldmpfginkdaaGreatDoor
namespace Go.Proofs.YtdjldmpfginkdaaGreatDoor
open Go.RowKit
attribute [local go_sem ↓] Go.wp_at_zero Go.wp_at_succ

def cls7 : List Int := [0, 0, 0, 1, 1, 2, 2]
/-- Between the rounds. -/
structure RG (w : World) (sb rb cb K : Nat) (p : Int) (l : List GI) (iv : Value) (W : World) : Prop where
  tape : TapeOk W sb K
  box : W.heap[rb]? = some (.cells #[.int .i64 p, .slice (some ⟨cb, 0, none⟩) 7 7, iv, .slice none 0 0] 26 (0, 0))
  cls : RowV W cb 3 (ints cls7)
  res : W.heap[w.heap.size]? = some (.cells #[.int .i64 0, .slice none 0 0, .slice none 0 0, .slice none 0 0] 26 (0, 0))
  own : ∃ xs, W.ownsRow (rb + 1) 38 15 iv l.length xs ∧ Rows15 W l xs
  gr : w.grownBy W (some sb)
  lt1 : sb < w.heap.size
  lt2 : w.heap.size < cb
  lt3 : cb < rb
section
variable {w W W' : World} {sb rb cb K K' : Nat} {p : Int} {l : List GI} {iv : Value}
theorem RG.lt (h : RG w sb rb cb K p l iv W) : rb < W.heap.size := (Array.getElem?_eq_some_iff.1 h.box).1
theorem RG.step (h : RG w sb rb cb K p l iv W) (hg : W.grownBy W' (some sb)) (ht : TapeOk W' sb K') : RG w sb rb cb K' p l iv W' := by
  have hk : ∀ b, b < W.heap.size → b ≠ sb → W'.heap[b]? = W.heap[b]? := fun b hb hne => hg.block b hb (fun e => hne (Option.some.inj e))
  have h1 := h.lt1
  have h2 := h.lt2
  have h3 := h.lt3
  have h4 := h.lt
  obtain ⟨xs, ho, hr⟩ := h.own
  refine ⟨ht, (hk rb h4 (by omega)).trans h.box, h.cls.keep (hk cb (by omega) (by omega)), (hk _ (by omega) (by omega)).trans h.res, ⟨xs, ho.kept hg ?_, hr.keep (KeepI.tape h.tape hg)⟩, grown_trans h.gr hg, h1, h2, h3⟩
  cases hob : iv.ownBlock with
  | none => exact .inl rfl
  | some g =>
    have := (ho.lt g hob).1
    exact .inr (fun e => by cases e; omega)
end
theorem own_formT {W : World} {base n size : Nat} {T : TypeId} {v : Value} {xs : List Value} (h : W.ownsRow base T size v n xs) : ∃ A c, v = .slice A n c := by
  rcases h.2 with ⟨rfl, rfl⟩ | ⟨g, cap, cur, rfl, _⟩
  · exact ⟨_, _, rfl⟩
  · exact ⟨_, _, rfl⟩
/-- One instruction more. -/
theorem RG.add {w W w5 : World} {sb rb cb K : Nat} {p : Int} {l : List GI} {iv : Value} (h : RG w sb rb cb K p l iv W) {x : GI} {av : Value} (hx : x.okk) (ha : ArgsAt W x.args av) {xs : List Value} (ho : W.ownsRow (rb + 1) 38 15 iv l.length xs) (hr : Rows15 W l xs) {o : Obj} {A5 : Option Addr} {c5 : Nat}
    (hown : w5.ownsRow (rb + 1) 38 15 (.slice A5 (l.length + 1) c5) (l.length + 1) (xs ++ (gcell x.op x.dst x.a x.b x.imm x.nm av x.ck x.ci x.cs).toList)) (hg : (W.alloc o).grownBy w5 iv.ownBlock) :
    RG w sb rb cb K p (l ++ [x]) (.slice A5 (l.length + 1) c5) (w5.setCell ⟨rb, 2, none⟩ (.slice A5 (l.length + 1) c5)) := by
  have h1 := h.lt1
  have h2 := h.lt2
  have h3 := h.lt3
  have h4 := h.lt
  have hge := own_ge ho
  have hba := below_new W o
  have hk5 : ∀ b, b ≤ rb → w5.heap[b]? = W.heap[b]? := fun b hb => (hg.block b (by simp; omega) (fun e => by have := hge b e.symm; omega)).trans (hba.block b (by omega))
  have hbox : w5.heap[rb]? = some (.cells #[.int .i64 p, .slice (some ⟨cb, 0, none⟩) 7 7, iv, .slice none 0 0] 26 (0, 0)) := (hk5 rb (Nat.le_refl _)).trans h.box
  have hk6 : ∀ b, b ≠ rb → (w5.setCell ⟨rb, 2, none⟩ (.slice A5 (l.length + 1) c5)).heap[b]? = w5.heap[b]? := fun b hb => Below.heap_setCell _ _ _ _ (by show b ≠ rb; exact hb)
  have hKI : KeepI W (w5.setCell ⟨rb, 2, none⟩ (.slice A5 (l.length + 1) c5)) := by
    refine ((KeepI.below hba).trans ?_).trans (KeepI.set hbox (by decide) 2 _)
    rcases ho.2 with ⟨hv, _⟩ | ⟨g, cap, cur, hv, _, hh, _⟩
    · rw [hv] at hg
      exact KeepI.grownN hg
    · rw [hv] at hg
      exact KeepI.grown (b := g) (by simpa [Value.ownBlock] using hg) (blk_old hh) (by decide)
  refine ⟨h.tape.keep (fun b hb => (hk6 b (by omega)).trans (hk5 b (by omega))), heap_setCell_same w5 rb 2 _ _ _ hbox, h.cls.keep ((hk6 cb (by omega)).trans (hk5 cb (by omega))), ((hk6 _ (by omega)).trans (hk5 _ (by omega))).trans h.res, ⟨_, ?_, (hr.add x av hx ha).keep hKI⟩, ?_, h1, h2, h3⟩
  · rw [List.length_append]
    exact ownsRow_setCell_below hown (by show rb < rb + 1; omega) _
  · refine ⟨hg.os.trans h.gr.os, hg.tape.trans h.gr.tape, hg.output.trans h.gr.output, ?_, fun b hb hne => ?_⟩
    · have e1 := h.gr.size
      have e2 := hg.size
      simp [World.setCell] at e2 ⊢
      omega
    · exact ((hk6 b (by omega)).trans (hk5 b (by omega))).trans (h.gr.block b hb hne)
theorem RG.fin {w W : World} {sb rb cb K : Nat} {p : Int} {l : List GI} {iv : Value} (h : RG w sb rb cb K p l iv W) (v0 v1 v2 v3 : Value) {WF : World} (hWF : ((((W.setCell ⟨w.heap.size, 0, none⟩ v0).setCell ⟨w.heap.size, 1, none⟩ v1).setCell ⟨w.heap.size, 2, none⟩ v2).setCell ⟨w.heap.size, 3, none⟩ v3) = WF) :
    RowV WF cb 3 (ints cls7) ∧ IsInsl WF WF.heap.size (l.map GI.ins) iv ∧ (∀ x ∈ l.map GI.ins, InsOk x ∧ x.args.length ≤ 2) ∧ w.grownBy WF (some sb) := by
  have h2 := h.lt2
  have h3 := h.lt3
  obtain ⟨xs, ho, hr⟩ := h.own
  have e0 := heap_setCell_same W w.heap.size 0 _ _ v0 h.res
  have e1 := heap_setCell_same _ w.heap.size 1 _ _ v1 e0
  have e2 := heap_setCell_same _ w.heap.size 2 _ _ v2 e1
  have hK := (((KeepI.set h.res (by decide) 0 v0).trans (KeepI.set e0 (by decide) 1 v1)).trans (KeepI.set e1 (by decide) 2 v2)).trans (KeepI.set e2 (by decide) 3 v3)
  have ho4 := ownsRow_setCell_below (ownsRow_setCell_below (ownsRow_setCell_below (ownsRow_setCell_below ho (a := ⟨w.heap.size, 0, none⟩) (by show w.heap.size < rb + 1; omega) v0) (a := ⟨w.heap.size, 1, none⟩) (by show w.heap.size < rb + 1; omega) v1) (a := ⟨w.heap.size, 2, none⟩) (by show w.heap.size < rb + 1; omega) v2) (a := ⟨w.heap.size, 3, none⟩) (by show w.heap.size < rb + 1; omega) v3
  have hg4 := grown_set_new (grown_set_new (grown_set_new (grown_set_new h.gr (Nat.le_refl _) 0 v0) (Nat.le_refl _) 1 v1) (Nat.le_refl _) 2 v2) (Nat.le_refl _) 3 v3
  have hr4 := hr.keep hK
  have hc4 := hK cb _ h.cls
  rw [hWF] at ho4 hg4 hr4 hc4
  have hi := Rows15.insl hr4 ho4
  exact ⟨hc4, hi.1, hi.2, hg4⟩
end Go.Proofs.YtdjldmpfginkdaaGreatDoor
