/- Contracts of regcode.toFits, successors.
  Rows known whole: a block's cells, read, written, made.
  Valid register code: plain facts.
  The registers that an instruction uses: plain.
  Liveness as a least fixed point, and the program's way to it: plain.
  Rows of instructions copied, and changed at one place. -/
import Derived.Test.YtdjldmpfginkdaaGreatDoorGRegA
import Derived.Laws.MakeOwn
import Derived.Laws.OwnMore
import Derived.Test.YtdjldmpfginkdaaGreatDoorGGraph
import Derived.Test.YtdjldmpfginkdaaGreatDoorGBase
namespace Go.Proofs.YtdjldmpfginkdaaGreatDoor
open Go.RowKit
attribute [local go_sem ↓] Go.wp_at_zero Go.wp_at_succ

set_option maxHeartbeats 4000000 in
theorem c_toFits (op imm : Int) (r0 r1 u1 u2 u3 u5 u6 u7 u8 u9 u10 u11 u12 u13 u14 : Value) (IA DA : Option Addr) (n ic e dc : Nat) (w : World) :
    Calls Tryz.prog 46 #[.agg #[r0, r1, .slice IA n ic, .slice DA e dc], .agg #[.int .i64 op, u1, u2, u3, .int .i64 imm, u5, u6, u7, u8, u9, u10, u11, u12, u13, u14]] w fun e' w' => e' = .returned (.bool (immF op imm n e)) ∧ Below w.heap.size w w' := by
  by_cases h17 : op = 17
  case pos =>
    subst h17
    go_enter Tryz.func46, Tryz.ntmps46
    go_wp2
    all_goals
      go_ret
      refine ⟨ret_bool ?_, below_step (below_new _ _) (below_new _ _)⟩
      simp_all [immF]
      try omega
  have k17 := beq_f h17
  by_cases h18 : op = 18
  case pos =>
    subst h18
    go_enter Tryz.func46, Tryz.ntmps46
    go_wp2
    all_goals
      go_ret
      refine ⟨ret_bool ?_, below_step (below_new _ _) (below_new _ _)⟩
      simp_all [immF]
      try omega
  have k18 := beq_f h18
  by_cases h5 : op = 5
  case pos =>
    subst h5
    go_enter Tryz.func46, Tryz.ntmps46
    go_wp2
    all_goals
      go_ret
      refine ⟨ret_bool ?_, below_step (below_new _ _) (below_new _ _)⟩
      simp_all [immF]
      try omega
  have k5 := beq_f h5
  by_cases h8 : op = 8
  case pos =>
    subst h8
    go_enter Tryz.func46, Tryz.ntmps46
    go_wp2
    all_goals
      go_ret
      refine ⟨ret_bool ?_, below_step (below_new _ _) (below_new _ _)⟩
      simp_all [immF]
      try omega
  have k8 := beq_f h8
  by_cases h13 : op = 13
  case pos =>
    subst h13
    go_enter Tryz.func46, Tryz.ntmps46
    go_wp2
    all_goals
      go_ret
      refine ⟨ret_bool ?_, below_step (below_new _ _) (below_new _ _)⟩
      simp_all [immF]
      try omega
  have k13 := beq_f h13
  by_cases h22 : op = 22
  case pos =>
    subst h22
    go_enter Tryz.func46, Tryz.ntmps46
    go_wp2
    all_goals
      go_ret
      refine ⟨ret_bool ?_, below_step (below_new _ _) (below_new _ _)⟩
      simp_all [immF]
      try omega
  have k22 := beq_f h22
  by_cases h25 : op = 25
  case pos =>
    subst h25
    go_enter Tryz.func46, Tryz.ntmps46
    go_wp2
    all_goals
      go_ret
      refine ⟨ret_bool ?_, below_step (below_new _ _) (below_new _ _)⟩
      simp_all [immF]
      try omega
  have k25 := beq_f h25
  by_cases h27 : op = 27
  case pos =>
    subst h27
    go_enter Tryz.func46, Tryz.ntmps46
    go_wp2
    all_goals
      go_ret
      refine ⟨ret_bool ?_, below_step (below_new _ _) (below_new _ _)⟩
      simp_all [immF]
      try omega
  have k27 := beq_f h27
  have HZ : Hid (immF op imm n e = decide (imm = 0)) := Lib.hid (by simp [immF, *])
  go_enter Tryz.func46, Tryz.ntmps46
  go_wp2
  all_goals
    go_ret
    refine ⟨ret_bool ?_, below_step (below_new _ _) (below_new _ _)⟩
    rw [HZ.out]
    rfl
/-- The fifteen cells of an instruction, from offset o of block g on. -/
def InsAt (w : World) (B : Nat) (x : Ins) (g o : Nat) : Prop := ∃ (A : Option Addr) (c : Nat) (TA : Option Addr) (tc : Nat) (EA : Option Addr) (ec : Nat),
  (w.cell? ⟨g, o, none⟩ = some (.int .i64 x.op) ∧ w.cell? ⟨g, o + 1, none⟩ = some (.int .i64 x.dst) ∧ w.cell? ⟨g, o + 2, none⟩ = some (.int .i64 x.a) ∧ w.cell? ⟨g, o + 3, none⟩ = some (.int .i64 x.b) ∧ w.cell? ⟨g, o + 4, none⟩ = some (.int .i64 x.imm) ∧
    w.cell? ⟨g, o + 5, none⟩ = some (.string x.name) ∧ w.cell? ⟨g, o + 6, none⟩ = some (.slice A x.args.length c) ∧ w.cell? ⟨g, o + 7, none⟩ = some (.int .i64 x.ty.kind) ∧ w.cell? ⟨g, o + 8, none⟩ = some (.string x.ty.name) ∧ w.cell? ⟨g, o + 9, none⟩ = some (.int .i64 x.ty.index) ∧
    w.cell? ⟨g, o + 10, none⟩ = some (.slice TA x.ty.args.length tc) ∧ w.cell? ⟨g, o + 11, none⟩ = some (.int .i64 x.ck) ∧ w.cell? ⟨g, o + 12, none⟩ = some (.int .i64 x.ci) ∧ w.cell? ⟨g, o + 13, none⟩ = some (.string x.cs) ∧ w.cell? ⟨g, o + 14, none⟩ = some (.slice EA x.ce ec)) ∧
  IsInts w B x.args (.slice A x.args.length c) ∧ IsTy w 0 B x.ty (.agg #[.int .i64 x.ty.kind, .string x.ty.name, .int .i64 x.ty.index, .slice TA x.ty.args.length tc])
theorem InsAt.keep {w w' : World} {B g o : Nat} {x : Ins} (h : InsAt w B x g o) (hg : g < B) (hk : ∀ b, b < B → w'.heap[b]? = w.heap[b]?) : InsAt w' B x g o := by
  obtain ⟨A, c, TA, tc, EA, ec, ⟨h0, h1, h2, h3, h4, h5, h6, h7, h8, h9, h10, h11, h12, h13, h14⟩, hi, ht⟩ := h
  have hc : ∀ i, w'.cell? ⟨g, i, none⟩ = w.cell? ⟨g, i, none⟩ := fun i => World.cell?_of_block (w := w) (w' := w') (a := ⟨g, i, none⟩) (hk g hg)
  exact ⟨A, c, TA, tc, EA, ec, ⟨(hc _).trans h0, (hc _).trans h1, (hc _).trans h2, (hc _).trans h3, (hc _).trans h4, (hc _).trans h5, (hc _).trans h6, (hc _).trans h7, (hc _).trans h8, (hc _).trans h9, (hc _).trans h10, (hc _).trans h11, (hc _).trans h12, (hc _).trans h13, (hc _).trans h14⟩, hi.keep hk (Nat.le_refl _), ht.keep (fun b _ hb => hk b hb) (Nat.le_refl _) (Nat.le_refl _)⟩
/-- A slice of instructions. -/
def IsInsl (w : World) (B : Nat) (xs : List Ins) (v : Value) : Prop := ∃ A c, v = .slice A xs.length c ∧ xs.length ≤ c ∧ (xs.length = 0 ∨ ∃ g o, A = some ⟨g, o, none⟩ ∧ g < B ∧ ∀ (j : Nat) (hj : j < xs.length), InsAt w B xs[j] g (o + j * 15))
theorem IsInsl.keep {w w' : World} {B : Nat} {xs : List Ins} {v : Value} (h : IsInsl w B xs v) (hk : ∀ b, b < B → w'.heap[b]? = w.heap[b]?) : IsInsl w' B xs v := by
  obtain ⟨A, c, hv, hc, h⟩ := h
  refine ⟨A, c, hv, hc, ?_⟩
  rcases h with h | ⟨g, o, hA, hg, h⟩
  · exact .inl h
  · exact .inr ⟨g, o, hA, hg, fun j hj => (h j hj).keep hg hk⟩
theorem IsInsl.below {w w' : World} {B C : Nat} {xs : List Ins} {v : Value} (h : IsInsl w B xs v) (hb : Below C w w') (hB : B ≤ C) : IsInsl w' B xs v := h.keep fun b hb' => hb.block b (by omega)
/-- Where an instruction goes on, as numbers of the program. -/
def succI (op imm i : Int) : List Int := if op = 17 then [imm] else if op = 21 ∨ op = 24 then [] else if op = 18 then (if imm = i + 1 then [i + 1] else if imm < i + 1 then [imm, i + 1] else [i + 1, imm]) else [i + 1]
theorem one_int (W : World) (a : Int) (g : Nat) (hg : W.heap.size = g) : IsInts (W.alloc (.cells #[.int .i64 a] 3)) (W.alloc (.cells #[.int .i64 a] 3)).heap.size [a] (.slice (some ⟨g, 0, none⟩) 1 1) := by
  subst hg
  exact ⟨_, 1, rfl, by simp, by decide, fun h => (by cases h), fun a ha _ => (by cases ha; rfl), Rd.blk (cs := #[.int .i64 a]) (blk_new _ _) rfl (by simp)⟩
theorem two_ints (W : World) (a b : Int) (g : Nat) (hg : W.heap.size = g) : IsInts (W.alloc (.cells #[.int .i64 a, .int .i64 b] 3)) (W.alloc (.cells #[.int .i64 a, .int .i64 b] 3)).heap.size [a, b] (.slice (some ⟨g, 0, none⟩) 2 2) := by
  subst hg
  exact ⟨_, 2, rfl, by simp, by decide, fun h => (by cases h), fun a ha _ => (by cases ha; rfl), Rd.blk (cs := #[.int .i64 a, .int .i64 b]) (blk_new _ _) rfl (by simp)⟩
theorem ints_of {w : World} {B : Nat} {l l' : List Int} {v : Value} (h : IsInts w B l v) (e : l' = l) : IsInts w B l' v := e ▸ h
set_option maxHeartbeats 4000000 in
theorem c_successors (r0 r1 r3 : Value) (xs : List Ins) (v : Value) (i : Nat) (w : World) (B : Nat) (hv : IsInsl w B xs v) (hB : B ≤ w.heap.size) (hi : i < xs.length) (hm : xs.length ≤ 2 ^ 40) :
    Calls Tryz.prog 29 #[.agg #[r0, r1, v, r3], .int .i64 i] w (RetInts (succI xs[i].op xs[i].imm i) w) := by
  obtain ⟨Ai, ci, rfl, _, hh⟩ := hv
  rcases hh with hh | ⟨g, o, rfl, hg, hcs⟩
  · omega
  obtain ⟨A, c, TA, tc, EA, ec, hc, _, _⟩ := (hcs i hi).keep hg (fun b hb => (below_new w (.cells #[r0, r1, .slice (some ⟨g, o, none⟩) xs.length ci, r3] 26)).block b (by omega))
  obtain ⟨h0, h1, h2, h3, h4, h5, h6, h7, h8, h9, h10, h11, h12, h13, h14⟩ := hc
  have hi0 : (0 : Int) ≤ (i : Int) := by omega
  have hi1 : (i : Int) < (xs.length : Int) := by omega
  have hwr : IntKind.i64.wrap ((i : Int) + 1) = (i : Int) + 1 := IntWalk.i64_in _ (by omega)
  clear hcs
  generalize xs[i] = x at *
  generalize xs.length = n at *
  generalize x.op = op, x.dst = dst, x.a = xa, x.b = xb, x.imm = imm, x.name = nm, x.args.length = la, x.ty.kind = tk, x.ty.name = tn, x.ty.index = ti, x.ty.args.length = tl, x.ck = ck, x.ci = xci, x.cs = xcs, x.ce = xce at *
  go_enter Tryz.func29, Tryz.ntmps29
  go_wp2
  all_goals
    go_ret
    refine ⟨_, rfl, ?_, ?_⟩
    · first
        | exact ints_of (IsInts.nil _ _) (by simp_all [succI]; done)
        | exact ints_of (one_int _ _ _ (by simp)) (by simp_all [succI]; done)
        | exact ints_of (two_ints _ _ _ _ (by simp)) (by simp_all [succI]; done)
    · first | exact below_step (below_step (below_new _ _) (below_new _ _)) (below_new _ _) | exact below_step (below_new _ _) (below_new _ _)
end Go.Proofs.YtdjldmpfginkdaaGreatDoor
namespace Go.Proofs.YtdjldmpfginkdaaGreatDoor
open Go.RowKit

/-- Block b holds the cells vs, and may be written. -/
def RowV (w : World) (b : Nat) (T : TypeId) (vs : List Value) : Prop := w.heap[b]? = some (.cells vs.toArray T (0, 0))
section
variable {w w' : World} {b : Nat} {T : TypeId} {vs : List Value}
theorem RowV.lt (h : RowV w b T vs) : b < w.heap.size := (Array.getElem?_eq_some_iff.1 h).1
theorem RowV.cell (h : RowV w b T vs) {j : Nat} {u : Value} (hj : vs[j]? = some u) : w.cell? ⟨b, j, none⟩ = some u := by
  rw [cell_of_row w b j _ _ _ h]; simpa using hj
theorem RowV.free (h : RowV w b T vs) (j : Nat) : w.frozen? ⟨b, j, none⟩ = false := frozen_of_row w b j _ _ h
theorem RowV.set (h : RowV w b T vs) (i : Nat) (u : Value) : RowV (w.setCell ⟨b, i, none⟩ u) b T (vs.set i u) := by
  unfold RowV
  rw [heap_setCell_same w b i _ _ u h]
  simp
theorem RowV.keep (h : RowV w b T vs) (hk : w'.heap[b]? = w.heap[b]?) : RowV w' b T vs := hk.trans h
theorem RowV.below (h : RowV w b T vs) (hb : Below w.heap.size w w') : RowV w' b T vs := h.keep (hb.block b h.lt)
theorem below_set {W : World} (h : Below w.heap.size w W) (hb : w.heap.size ≤ b) (i : Nat) (u : Value) : Below w.heap.size w (W.setCell ⟨b, i, none⟩ u) :=
  ⟨h.os, h.tape, h.output, by simp [World.setCell]; exact h.size, fun k hk => by
    rw [Below.heap_setCell _ _ _ _ (by show k ≠ b; omega)]
    exact h.block k hk⟩
theorem grown_set (w : World) (b i : Nat) (u : Value) : w.grownBy (w.setCell ⟨b, i, none⟩ u) (some b) :=
  ⟨rfl, rfl, rfl, by simp [World.setCell], fun k _ hne => Below.heap_setCell _ _ _ _ (fun e => hne (by rw [e]))⟩
end
theorem made_one (z : Value) (n : Nat) : madeCells #[z] (n * 1) = (List.replicate n z).toArray := by
  apply Array.ext
  · simp [madeCells]
  · intro i h1 h2
    simp [madeCells, Nat.mod_one]
theorem info_bool : (Tryz.prog.info? 4).map (fun i => (i.zero, i.size, i.bytes)) = some (some (.bool false), 1, 1) := by kernel_rfl
theorem made_ints (W : World) (n : Nat) (hn : n ≤ 2 ^ 40) : (Instr.makeSlice 22 (.int .i64 n) (.int .i64 n)).run Tryz.prog W = .ok (.slice (some ⟨W.heap.size, 0, none⟩) n n) (W.alloc (.cells (List.replicate n (.int .i64 0)).toArray 3)) := by
  obtain ⟨i0, hi0, hz0, hz1, hz2⟩ := info_parts info_int
  have := run_make (P := Tryz.prog) W 22 3 i0 _ Tryz.underlying22 hi0 hz0 .i64 .i64 n n (by omega) (Int.le_refl _) (by rw [hz2]; omega) (by omega)
  rw [hz1, show (Value.int .i64 0).cells = #[.int .i64 0] from rfl] at this
  simp only [Int.toNat_natCast] at this
  rw [made_one] at this
  exact this
theorem made_bools (W : World) (n : Nat) (hn : n ≤ 2 ^ 40) : (Instr.makeSlice 63 (.int .i64 n) (.int .i64 n)).run Tryz.prog W = .ok (.slice (some ⟨W.heap.size, 0, none⟩) n n) (W.alloc (.cells (List.replicate n (.bool false)).toArray 4)) := by
  obtain ⟨i0, hi0, hz0, hz1, hz2⟩ := info_parts info_bool
  have := run_make (P := Tryz.prog) W 63 4 i0 _ Tryz.underlying63 hi0 hz0 .i64 .i64 n n (by omega) (Int.le_refl _) (by rw [hz2]; omega) (by omega)
  rw [hz1, show (Value.bool false).cells = #[.bool false] from rfl] at this
  simp only [Int.toNat_natCast] at this
  rw [made_one] at this
  exact this
/-- An instruction of a slice, as it is read at place k. -/
theorem IsInsl.at_ {w w' : World} {B : Nat} {xs : List Ins} {A : Option Addr} {n c : Nat} (h : IsInsl w B xs (.slice A n c)) (hk : ∀ b, b < B → w'.heap[b]? = w.heap[b]?) {k : Nat} (hkn : k < n) :
    ∃ g o, ∃ hk' : k < xs.length, A = some ⟨g, o, none⟩ ∧ g < B ∧ InsAt w' B xs[k] g (o + k * 15) := by
  obtain ⟨A', c', hv, _, hh⟩ := h
  simp only [Value.slice.injEq] at hv
  obtain ⟨rfl, rfl, rfl⟩ := hv
  rcases hh with hh | ⟨g, o, rfl, hg, hcs⟩
  · omega
  · exact ⟨g, o, hkn, rfl, hg, (hcs k hkn).keep hg hk⟩
end Go.Proofs.YtdjldmpfginkdaaGreatDoor
namespace Go.Proofs.YtdjldmpfginkdaaGreatDoor
open Go.RowKit

/-- The successors, as numbers of the program, are the graph's. -/
def SuccOk (r : Rc) : Prop := ∀ (i : Nat) (hi : i < r.instrs.length), succI r.instrs[i].op r.instrs[i].imm i = (r.succ i).map (fun (n : Nat) => (n : Int)) ∧ ∀ j ∈ r.succ i, j < r.instrs.length
/-- The last operation does not fall through. -/
def Rc.lastOk (r : Rc) : Prop := ∃ x, r.instrs[r.instrs.length - 1]? = some x ∧ (x.op = 17 ∨ x.op = 21 ∨ x.op = 24)
def clsOk (p : Int) (i : Nat) (c : Int) : Prop := 0 ≤ c ∧ c ≤ 2 ∧ ((i : Int) < p → c = 0)
theorem insB_imm {r : Rc} {x : Ins} (h : insB r x = true) : immB r x = true := by
  unfold insB at h
  simp only [Bool.and_eq_true] at h
  exact h.2
theorem insB_fit {r : Rc} {x : Ins} (h : insB r x = true) : fitB r x = true := by
  unfold insB at h
  simp only [Bool.and_eq_true] at h
  exact h.1.2
theorem insB_op {r : Rc} {x : Ins} (h : insB r x = true) : 1 ≤ x.op ∧ x.op ≤ 27 := by
  unfold insB at h
  simp only [Bool.and_eq_true, decide_eq_true_eq] at h
  exact h.1.1.1.1.1.1.1.1.1.1.1.1
theorem insB_args {r : Rc} {x : Ins} (h : insB r x = true) : (oL x.op = true ∨ x.args.length = 0) ∧ x.args.length ≤ 6 := by
  unfold insB at h
  simp only [Bool.and_eq_true, Bool.or_eq_true, decide_eq_true_eq] at h
  exact ⟨h.1.1.1.1.1.1.1.2, h.1.1.2⟩
theorem SuccOk.of {r : Rc} (h : ∀ x ∈ r.instrs, insB r x = true) (hl : r.lastOk) : SuccOk r := by
  intro i hi
  have hx : r.instrs[i]? = some r.instrs[i] := List.getElem?_eq_getElem hi
  have hb := insB_imm (h _ (List.getElem_mem hi))
  have hlast : r.instrs[i].op = 17 ∨ r.instrs[i].op = 21 ∨ r.instrs[i].op = 24 ∨ i + 1 < r.instrs.length := by
    rcases Nat.lt_or_ge (i + 1) r.instrs.length with h1 | h1
    · exact .inr (.inr (.inr h1))
    · obtain ⟨y, hy, hyo⟩ := hl
      rw [show r.instrs.length - 1 = i by omega, hx] at hy
      cases hy
      rcases hyo with h2 | h2 | h2
      · exact .inl h2
      · exact .inr (.inl h2)
      · exact .inr (.inr (.inl h2))
  unfold Rc.succ succI
  rw [hx]
  simp only
  generalize r.instrs[i] = x at *
  unfold immB immF at hb
  clear hx h hl
  generalize r.instrs.length = n at *
  by_cases h17 : x.op = 17
  · rw [if_pos (.inl h17), decide_eq_true_eq] at hb
    rw [if_pos h17, if_pos h17]
    refine ⟨by simp; omega, fun j hj => ?_⟩
    simp at hj
    omega
  rw [if_neg h17, if_neg h17]
  by_cases h2 : x.op = 21 ∨ x.op = 24
  · rw [if_pos h2, if_pos h2]
    simp
  rw [if_neg h2, if_neg h2]
  have hi1 : i + 1 < n := by omega
  by_cases h18 : x.op = 18
  · rw [if_pos (.inr h18), decide_eq_true_eq] at hb
    rw [if_pos h18, if_pos h18]
    by_cases h3 : x.imm = (i : Int) + 1
    · rw [if_pos h3, if_pos h3]
      exact ⟨by simp, by simpa using hi1⟩
    rw [if_neg h3, if_neg h3]
    by_cases h4 : x.imm < (i : Int) + 1
    · rw [if_pos h4, if_pos h4]
      refine ⟨by simp; omega, fun j hj => ?_⟩
      simp at hj
      omega
    · rw [if_neg h4, if_neg h4]
      refine ⟨by simp; omega, fun j hj => ?_⟩
      simp at hj
      omega
  rw [if_neg h18, if_neg h18]
  exact ⟨by simp, by simpa using hi1⟩
theorem Rc.val_long {r : Rc} (h : 20000 < r.instrs.length ∨ 1000 < r.classes.length) : r.validate = 4 := by
  unfold Rc.validate
  rw [if_pos h]
theorem Rc.val_ok {r : Rc} (h : r.Ok) : r.validate = 0 := by
  unfold Rc.validate
  rw [if_neg (by have := h.1; have := h.2.1; omega), if_pos h]
theorem Rc.val_bad {r : Rc} (h0 : r.instrs.length ≤ 20000) (h1 : r.classes.length ≤ 1000) (h : ¬ r.Ok) : r.validate = 2 := by
  unfold Rc.validate
  rw [if_neg (by omega), if_neg h]
theorem Rc.val_ok_iff {r : Rc} : r.validate = 0 ↔ r.Ok := by
  constructor
  · intro h
    unfold Rc.validate at h
    split at h
    · cases h
    · split at h
      · assumption
      · cases h
  · exact Rc.val_ok
theorem Rc.val_head {r : Rc} (h0 : r.instrs.length ≤ 20000) (h1 : r.classes.length ≤ 1000) (h : r.params < 0 ∨ 6 < r.params ∨ (r.classes.length : Int) < r.params ∨ r.instrs.length = 0) : r.validate = 2 :=
  Rc.val_bad h0 h1 (fun ⟨_, _, a, b, c, d, _⟩ => by omega)
theorem Rc.val_cls {r : Rc} (h0 : r.instrs.length ≤ 20000) (h1 : r.classes.length ≤ 1000) {i : Nat} {c : Int} (hi : r.classes[i]? = some c) (h : ¬ clsOk r.params i c) : r.validate = 2 :=
  Rc.val_bad h0 h1 (fun ⟨_, _, _, _, _, _, e, _⟩ => h (e i c hi))
theorem Rc.val_ins {r : Rc} (h0 : r.instrs.length ≤ 20000) (h1 : r.classes.length ≤ 1000) {x : Ins} (hi : x ∈ r.instrs) (h : insB r x = false) : r.validate = 2 :=
  Rc.val_bad h0 h1 (fun ⟨_, _, _, _, _, _, _, e, _⟩ => by have := e x hi; rw [h] at this; cases this)
theorem Rc.val_last {r : Rc} (h0 : r.instrs.length ≤ 20000) (h1 : r.classes.length ≤ 1000) (h : ¬ r.lastOk) : r.validate = 2 :=
  Rc.val_bad h0 h1 (fun ⟨_, _, _, _, _, _, _, _, e, _⟩ => h e)
theorem Rc.val_cyc {r : Rc} (h0 : r.instrs.length ≤ 20000) (h1 : r.classes.length ≤ 1000) (h : ¬ Acyc r.instrs.length r.free r.succ) : r.validate = 2 :=
  Rc.val_bad h0 h1 (fun ⟨_, _, _, _, _, _, _, _, _, e⟩ => h e)
theorem Rc.val_all {r : Rc} (h0 : r.instrs.length ≤ 20000) (h1 : r.classes.length ≤ 1000) (h2 : ¬ (r.params < 0 ∨ 6 < r.params ∨ (r.classes.length : Int) < r.params ∨ r.instrs.length = 0)) (h3 : ∀ (i : Nat) (c : Int), r.classes[i]? = some c → clsOk r.params i c)
    (h4 : ∀ x ∈ r.instrs, insB r x = true) (h5 : r.lastOk) (h6 : Acyc r.instrs.length r.free r.succ) : r.validate = 0 :=
  Rc.val_ok ⟨h0, h1, by omega, by omega, by omega, by omega, h3, h4, h5, h6⟩
end Go.Proofs.YtdjldmpfginkdaaGreatDoor
namespace Go.Proofs.YtdjldmpfginkdaaGreatDoor
open Go.RowKit

/-- Two sorted lists with the same elements are the same. -/
theorem srt_ext : ∀ (l m : List Int), l.Pairwise (· < ·) → m.Pairwise (· < ·) → (∀ x, x ∈ l ↔ x ∈ m) → l = m
  | [], [], _, _, _ => rfl
  | [], y :: m, _, _, h => by have := (h y).2 (by simp); cases this
  | x :: l, [], _, _, h => by have := (h x).1 (by simp); cases this
  | x :: l, y :: m, hl, hm, h => by
    rw [List.pairwise_cons] at hl hm
    have hxy : x = y := by
      rcases List.mem_cons.1 ((h x).1 (by simp)) with e | e
      · exact e
      · rcases List.mem_cons.1 ((h y).2 (by simp)) with e' | e'
        · exact e'.symm
        · have h1 := hm.1 x e
          have h2 := hl.1 y e'
          omega
    subst hxy
    rw [srt_ext l m hl.2 hm.2 fun z => ?_]
    constructor
    · intro hz
      rcases List.mem_cons.1 ((h z).1 (by simp [hz])) with e | e
      · subst e; have := hl.1 z hz; omega
      · exact e
    · intro hz
      rcases List.mem_cons.1 ((h z).2 (by simp [hz])) with e | e
      · subst e; have := hm.1 z hz; omega
      · exact e
def Ins.regs (x : Ins) : List Int := (if oA x.op = true then [x.a] else []) ++ ((if oB x.op x.imm = true then [x.b] else []) ++ (if oL x.op = true then x.args else []))
/-- The registers that x reads, in ascending order. -/
def Ins.uses (x : Ins) : List Int := insAll [] x.regs
theorem uses_sorted (x : Ins) : x.uses.Pairwise (· < ·) := insAll_sorted [] _ .nil
theorem mem_uses {x : Ins} {n : Int} : n ∈ x.uses ↔ n ∈ x.regs := by
  unfold Ins.uses
  rw [insAll_mem]
  simp
theorem mem_regs {x : Ins} {n : Int} : n ∈ x.regs ↔ (oA x.op = true ∧ n = x.a) ∨ (oB x.op x.imm = true ∧ n = x.b) ∨ (oL x.op = true ∧ n ∈ x.args) := by
  unfold Ins.regs
  cases oA x.op <;> cases oB x.op x.imm <;> cases oL x.op <;> simp
/-- Which of the three an operation has. -/
theorem abl (op imm : Int) : (oA op = false ∧ oB op imm = false ∧ oL op = false) ∨ (oA op = true ∧ oB op imm = false ∧ oL op = false) ∨ (oA op = true ∧ oB op imm = true ∧ oL op = false) ∨ (oA op = false ∧ oB op imm = false ∧ oL op = true) := by
  cases hl : oL op
  · cases hb : oB op imm
    · cases oA op <;> simp
    · have ha : oA op = true := by
        unfold oB at hb
        unfold oA
        simp only [decide_eq_true_eq] at hb ⊢
        omega
      simp [ha]
  · have ha : oA op = false := by
      unfold oL at hl
      unfold oA
      simp only [decide_eq_true_eq, decide_eq_false_iff_not] at hl ⊢
      omega
    have hb : oB op imm = false := by
      unfold oL at hl
      unfold oB
      simp only [decide_eq_true_eq, decide_eq_false_iff_not] at hl ⊢
      omega
    simp [ha, hb]
theorem uses_len (x : Ins) : x.uses.length ≤ x.regs.length := by
  have := (insAll_len [] x.regs).2
  simpa [Ins.uses] using this
theorem regs_len (x : Ins) : x.regs.length ≤ 2 + x.args.length := by
  unfold Ins.regs
  cases oA x.op <;> cases oB x.op x.imm <;> cases oL x.op <;> simp <;> omega
theorem ins_last (x : Int) : ∀ (l : List Int), (∀ y ∈ l, y < x) → ins x l = l ++ [x]
  | [], _ => rfl
  | y :: l, h => by
    have h1 := h y (by simp)
    rw [ins, if_pos h1, ins_last x l (fun z hz => h z (by simp [hz]))]
    rfl
def srt (l : List Int) : List Int := l.mergeSort fun x y => decide (x ≤ y)
theorem srt_len (l : List Int) : (srt l).length = l.length := List.length_mergeSort l
theorem srt_le (l : List Int) : (srt l).Pairwise (· ≤ ·) := by
  have := List.pairwise_mergeSort (le := fun x y : Int => decide (x ≤ y)) (fun a b c h1 h2 => by simp at *; omega) (fun a b => by simp; omega) l
  exact this.imp (fun h => by simpa using h)
theorem srt_mem (l : List Int) (x : Int) : x ∈ srt l ↔ x ∈ l := (List.mergeSort_perm l _).mem_iff
theorem insAll_srt (l : List Int) : insAll [] (srt l) = insAll [] l := by
  refine srt_ext _ _ (insAll_sorted [] _ .nil) (insAll_sorted [] _ .nil) fun x => ?_
  rw [insAll_mem, insAll_mem, srt_mem]
/-- The loop that leaves out what stands twice. -/
theorem dd_step {l : List Int} {k : Nat} (hk : k < l.length) : insAll [] (l.take (k + 1)) = ins l[k] (insAll [] (l.take k)) := by
  rw [List.take_succ_eq_append_getElem hk, insAll_append]
  rfl
theorem le_at {l : List Int} (hl : l.Pairwise (· ≤ ·)) {i k : Nat} (hik : i ≤ k) (hk : k < l.length) : l[i] ≤ l[k] := by
  rcases Nat.lt_or_ge i k with h | h
  · exact List.pairwise_iff_getElem.1 hl i k _ hk h
  · have : i = k := by omega
    subst this
    exact Int.le_refl _
theorem dd_new {l : List Int} (hl : l.Pairwise (· ≤ ·)) {k : Nat} (hk : k < l.length) (h : k = 0 ∨ ∃ h0 : k - 1 < l.length, l[k] ≠ l[k - 1]) : insAll [] (l.take (k + 1)) = insAll [] (l.take k) ++ [l[k]] := by
  rw [dd_step hk]
  refine ins_last _ _ fun y hy => ?_
  rw [insAll_mem] at hy
  simp only [List.not_mem_nil, false_or] at hy
  obtain ⟨i, hi, rfl⟩ := List.getElem_of_mem hy
  simp only [List.length_take] at hi
  rw [List.getElem_take]
  rcases h with h | ⟨h0, h⟩
  · omega
  · have h1 := le_at hl (i := i) (k := k - 1) (by omega) h0
    have h2 := le_at hl (i := k - 1) (k := k) (by omega) hk
    omega
theorem dd_old {l : List Int} {k : Nat} (hk : k + 1 < l.length) (h : l[k + 1] = l[k]) : insAll [] (l.take (k + 1 + 1)) = insAll [] (l.take (k + 1)) := by
  rw [dd_step hk]
  refine ins_mem_self _ _ (insAll_sorted [] _ .nil) ?_
  rw [insAll_mem, h]
  right
  rw [List.mem_take_iff_getElem]
  exact ⟨k, by omega, rfl⟩
end Go.Proofs.YtdjldmpfginkdaaGreatDoor
namespace Go.Proofs.YtdjldmpfginkdaaGreatDoor
open Go.RowKit

/-- Register k is live before instruction i. -/
inductive LiveP (r : Rc) : Nat → Nat → Prop
  | use {i k : Nat} {x : Ins} : r.instrs[i]? = some x → (k : Int) ∈ x.uses → LiveP r i k
  | step {i k j : Nat} {x : Ins} : r.instrs[i]? = some x → ¬ (oD x.op = true ∧ x.dst = (k : Int)) → j ∈ r.succ i → LiveP r j k → LiveP r i k
theorem liveP_iff {r : Rc} {i k : Nat} {x : Ins} (hx : r.instrs[i]? = some x) : LiveP r i k ↔ (k : Int) ∈ x.uses ∨ (¬ (oD x.op = true ∧ x.dst = (k : Int)) ∧ ∃ j ∈ r.succ i, LiveP r j k) := by
  constructor
  · intro h
    cases h with
    | use h1 h2 =>
      rw [hx] at h1
      cases h1
      exact .inl h2
    | step h1 h2 h3 h4 =>
      rw [hx] at h1
      cases h1
      exact .inr ⟨h2, _, h3, h4⟩
  · rintro (h | ⟨h1, j, h2, h3⟩)
    · exact .use hx h
    · exact .step hx h1 h2 h3
/-- One row, from a table M. -/
def nowB (r : Rc) (M : Nat → Nat → Bool) (i : Nat) (x : Ins) (k : Nat) : Bool := decide ((k : Int) ∈ x.uses) || (!(oD x.op && decide (x.dst = (k : Int))) && (r.succ i).any fun j => M j k)
theorem nowB_iff {r : Rc} {M : Nat → Nat → Bool} {i : Nat} {x : Ins} {k : Nat} : nowB r M i x k = true ↔ (k : Int) ∈ x.uses ∨ (¬ (oD x.op = true ∧ x.dst = (k : Int)) ∧ ∃ j ∈ r.succ i, M j k = true) := by
  unfold nowB
  cases oD x.op <;> simp
def Sound (r : Rc) (M : Nat → Nat → Bool) : Prop := ∀ i k, i < r.instrs.length → k < r.classes.length → M i k = true → LiveP r i k
def ClosedAt (r : Rc) (M : Nat → Nat → Bool) (i : Nat) : Prop := ∀ x, r.instrs[i]? = some x → ∀ k, k < r.classes.length → nowB r M i x k = true → M i k = true
theorem live_of_closed {r : Rc} {M : Nat → Nat → Bool} (hs : ∀ i, i < r.instrs.length → ∀ j ∈ r.succ i, j < r.instrs.length) (h : ∀ i, i < r.instrs.length → ClosedAt r M i) {i k : Nat} (hl : LiveP r i k) : i < r.instrs.length → k < r.classes.length → M i k = true := by
  induction hl with
  | use h1 h2 => exact fun hi hk => h _ hi _ h1 _ hk (nowB_iff.2 (.inl h2))
  | step h1 h2 h3 _ ih => exact fun hi hk => h _ hi _ h1 _ hk (nowB_iff.2 (.inr ⟨h2, _, h3, ih (hs _ hi _ h3) hk⟩))
/-- The table that is reached is the least. -/
theorem table_eq {r : Rc} {M : Nat → Nat → Bool} (hs : ∀ i, i < r.instrs.length → ∀ j ∈ r.succ i, j < r.instrs.length) (h1 : Sound r M) (h2 : ∀ i, i < r.instrs.length → ClosedAt r M i) {i k : Nat} (hi : i < r.instrs.length) (hk : k < r.classes.length) : M i k = true ↔ LiveP r i k :=
  ⟨h1 i k hi hk, fun h => live_of_closed hs h2 h hi hk⟩
theorem sound_now {r : Rc} {M : Nat → Nat → Bool} (hs : ∀ i, i < r.instrs.length → ∀ j ∈ r.succ i, j < r.instrs.length) (h : Sound r M) {i k : Nat} {x : Ins} (hi : i < r.instrs.length) (hx : r.instrs[i]? = some x) (hk : k < r.classes.length) (hn : nowB r M i x k = true) : LiveP r i k := by
  rcases nowB_iff.1 hn with h1 | ⟨h1, j, h2, h3⟩
  · exact .use hx h1
  · exact .step hx h1 h2 (h j k (hs i hi j h2) hk h3)
/-- One entry is set. -/
def upd2 (M : Nat → Nat → Bool) (i k : Nat) : Nat → Nat → Bool := fun a b => if a = i ∧ b = k then true else M a b
theorem Sound.set {r : Rc} {M : Nat → Nat → Bool} {i k : Nat} (h : Sound r M) (hl : LiveP r i k) : Sound r (upd2 M i k) := by
  intro a b ha hb hm
  unfold upd2 at hm
  split at hm
  · rename_i he
    obtain ⟨rfl, rfl⟩ := he
    exact hl
  · exact h a b ha hb hm
/-- How many entries are not set. -/
def offs (n m : Nat) (M : Nat → Nat → Bool) : Nat := Sm (fun i => Sm (fun k => if M i k = true then 0 else 1) m) n
theorem Sm_one {f g : Nat → Nat} {a : Nat} (hne : ∀ i, i ≠ a → f i = g i) (ha : f a = g a + 1) : ∀ {n : Nat}, a < n → Sm f n = Sm g n + 1
  | 0, h => by omega
  | n + 1, h => by
    rw [Sm, Sm]
    rcases Nat.lt_or_ge a n with h1 | h1
    · rw [Sm_one hne ha h1, hne n (by omega)]
      omega
    · obtain rfl : a = n := by omega
      rw [Sm_congr (f := f) (g := g) (fun i hi => hne i (by omega)), ha]
      omega
theorem offs_set {n m : Nat} {M : Nat → Nat → Bool} {i k : Nat} (hi : i < n) (hk : k < m) (h : M i k = false) : offs n m M = offs n m (upd2 M i k) + 1 := by
  unfold offs
  refine Sm_one (a := i) (fun a ha => Sm_congr fun b _ => ?_) (Sm_one (a := k) (fun b hb => ?_) ?_ hk) hi
  · simp [upd2, ha]
  · simp [upd2, hb]
  · simp [upd2, h]
/-- A pass from below the last instruction down: so far b has been set, or all that was passed is closed. -/
structure LPass (r : Rc) (F0 k : Nat) (b : Bool) (M : Nat → Nat → Bool) : Prop where
  sound : Sound r M
  yes : b = true → offs r.instrs.length r.classes.length M < F0
  no : b = false → offs r.instrs.length r.classes.length M = F0 ∧ ∀ i, k ≤ i → i < r.instrs.length → ClosedAt r M i
/-- Within one row: as LPass, and if nothing has been set the first k entries are closed. -/
structure LRow (r : Rc) (F0 j : Nat) (nw : Nat → Bool) (M0 : Nat → Nat → Bool) (k : Nat) (b : Bool) (M : Nat → Nat → Bool) : Prop where
  pass : LPass r F0 (j + 1) b M
  same : b = false → M = M0
  row : b = false → ∀ a, a < k → nw a = true → M j a = true
section
variable {r : Rc} {F0 k j : Nat} {b : Bool} {M M0 : Nat → Nat → Bool} {nw : Nat → Bool}
theorem LPass.start (h : Sound r M) : LPass r (offs r.instrs.length r.classes.length M) r.instrs.length false M := ⟨h, by simp, fun _ => ⟨rfl, fun i h1 h2 => by omega⟩⟩
theorem LRow.start (h : LPass r F0 (j + 1) b M) : LRow r F0 j nw M 0 b M := ⟨h, fun _ => rfl, fun _ a ha => by omega⟩
theorem LRow.skip (h : LRow r F0 j nw M0 k b M) (hs : nw k = false ∨ M j k = true) : LRow r F0 j nw M0 (k + 1) b M := ⟨h.pass, h.same, fun hb a ha hn => by
  rcases Nat.lt_or_ge a k with h1 | h1
  · exact h.row hb a h1 hn
  · obtain rfl : a = k := by omega
    rcases hs with h2 | h2
    · rw [h2] at hn; cases hn
    · exact h2⟩
theorem LRow.set (h : LRow r F0 j nw M0 k b M) (hj : j < r.instrs.length) (hk : k < r.classes.length) (hm : M j k = false) (hl : LiveP r j k) : LRow r F0 j nw M0 (k + 1) true (upd2 M j k) := by
  have ho := offs_set hj hk hm
  refine ⟨⟨h.pass.sound.set hl, fun _ => ?_, by simp⟩, by simp, by simp⟩
  cases b
  · have := (h.pass.no rfl).1; omega
  · have := h.pass.yes rfl; omega
theorem LRow.done (h : LRow r F0 j nw M0 r.classes.length b M) (hn : ∀ x, r.instrs[j]? = some x → ∀ a, a < r.classes.length → nowB r M0 j x a = true → nw a = true) : LPass r F0 j b M :=
  ⟨h.pass.sound, h.pass.yes, fun hb => ⟨(h.pass.no hb).1, fun i h1 h2 => by
    rcases Nat.lt_or_ge j i with h3 | h3
    · exact (h.pass.no hb).2 i h3 h2
    · obtain rfl : i = j := by omega
      exact fun x hx a ha hna => h.row hb a ha (hn x hx a ha (h.same hb ▸ hna))⟩⟩
end
theorem cls_rng {r : Rc} {n : Int} (h : 0 ≤ r.cls n) : 0 ≤ n ∧ n < r.classes.length := by
  unfold Rc.cls clsAt at h
  split at h
  · omega
  · split at h
    · rename_i hn _ c hc
      have := (List.getElem?_eq_some_iff.1 hc).1
      omega
    · omega
theorem fit_regs {r : Rc} {x : Ins} (h : fitB r x = true) : (oD x.op = true → 0 ≤ r.cls x.dst) ∧ ∀ n ∈ x.regs, 0 ≤ r.cls n := by
  have key : (oD x.op = true → 0 ≤ r.cls x.dst) ∧ (oA x.op = true → 0 ≤ r.cls x.a) ∧ (oB x.op x.imm = true → 0 ≤ r.cls x.b) ∧ (oL x.op = true → ∀ n ∈ x.args, 0 ≤ r.cls n) := by
    unfold fitB at h
    simp only at h
    split at h
    · rename_i ho
      simp only [decide_eq_true_eq] at h
      rw [ho]
      refine ⟨fun _ => by omega, fun h => by simp [oA] at h, fun h => by simp [oB] at h, fun h => by simp [oL] at h⟩
    split at h
    · rename_i ho
      simp only [decide_eq_true_eq] at h
      rw [ho]
      refine ⟨fun _ => by omega, fun _ => by omega, fun h => by simp [oB] at h, fun h => by simp [oL] at h⟩
    split at h
    · rename_i ho
      simp only [decide_eq_true_eq] at h
      rw [ho]
      refine ⟨fun _ => by omega, fun _ => by omega, fun h => by simp [oB] at h, fun h => by simp [oL] at h⟩
    split at h
    · rename_i ho
      simp only [decide_eq_true_eq] at h
      rw [ho]
      refine ⟨fun _ => by omega, fun _ => by omega, fun h => by simp [oB] at h, fun h => by simp [oL] at h⟩
    split at h
    · rename_i ho
      simp only [decide_eq_true_eq] at h
      rw [ho]
      refine ⟨fun _ => by omega, fun _ => by omega, fun _ => by omega, fun h => by simp [oL] at h⟩
    split at h
    · rename_i ho
      simp only [decide_eq_true_eq] at h
      rw [ho]
      refine ⟨fun _ => by omega, fun _ => by omega, fun _ => by omega, fun h => by simp [oL] at h⟩
    split at h
    · rename_i ho
      simp only [decide_eq_true_eq] at h
      rw [ho]
      refine ⟨fun _ => by omega, fun _ => by omega, fun h => by simp [oB] at h, fun h => by simp [oL] at h⟩
    split at h
    · rename_i ho
      simp only [decide_eq_true_eq] at h
      rw [ho]
      refine ⟨fun _ => by omega, fun _ => by omega, fun h => by simp [oB] at h, fun h => by simp [oL] at h⟩
    split at h
    · rename_i ho
      simp only [decide_eq_true_eq] at h
      rw [ho]
      refine ⟨fun h => by simp [oD] at h, fun _ => by omega, fun h => by simp [oB] at h, fun h => by simp [oL] at h⟩
    · simp only [Bool.and_eq_true, Bool.or_eq_true, Bool.not_eq_true', List.all_eq_true, decide_eq_true_eq] at h
      obtain ⟨⟨⟨h1, h2⟩, h3⟩, h4⟩ := h
      refine ⟨fun e => ?_, fun e => ?_, fun e => ?_, fun _ n hn => by rw [h1 n hn]; omega⟩
      · rcases h2 with h2 | h2
        · rw [e] at h2; cases h2
        · omega
      · rcases h3 with h3 | h3
        · rw [e] at h3; cases h3
        · omega
      · rcases h4 with h4 | h4
        · rw [e] at h4; cases h4
        · omega
  refine ⟨key.1, fun n hn => ?_⟩
  rcases mem_regs.1 hn with ⟨h1, rfl⟩ | ⟨h1, rfl⟩ | ⟨h1, h2⟩
  · exact key.2.1 h1
  · exact key.2.2.1 h1
  · exact key.2.2.2 h1 n h2
/-- In valid code all registers exist. -/
theorem ok_regs {r : Rc} {x : Ins} (h : insB r x = true) : (oD x.op = true → 0 ≤ x.dst ∧ x.dst < r.classes.length) ∧ ∀ n ∈ x.uses, 0 ≤ n ∧ n < r.classes.length :=
  ⟨fun e => cls_rng ((fit_regs (insB_fit h)).1 e), fun n hn => cls_rng ((fit_regs (insB_fit h)).2 n (mem_uses.1 hn))⟩
end Go.Proofs.YtdjldmpfginkdaaGreatDoor
namespace Go.Proofs.YtdjldmpfginkdaaGreatDoor
open Go.RowKit

def insC (x : Ins) (A : Option Addr) (c : Nat) (TA : Option Addr) (tc : Nat) (EA : Option Addr) (ec : Nat) : List Value := [.int .i64 x.op, .int .i64 x.dst, .int .i64 x.a, .int .i64 x.b, .int .i64 x.imm, .string x.name, .slice A x.args.length c, .int .i64 x.ty.kind, .string x.ty.name, .int .i64 x.ty.index, .slice TA x.ty.args.length tc, .int .i64 x.ck, .int .i64 x.ci, .string x.cs, .slice EA x.ce ec]
/-- What an instruction points to. -/
def InsPt (W : World) (B : Nat) (x : Ins) (A : Option Addr) (c : Nat) (TA : Option Addr) (tc : Nat) : Prop := IsInts W B x.args (.slice A x.args.length c) ∧ IsTy W 0 B x.ty (.agg #[.int .i64 x.ty.kind, .string x.ty.name, .int .i64 x.ty.index, .slice TA x.ty.args.length tc])
theorem InsPt.keep {W W' : World} {B B' : Nat} {x : Ins} {A : Option Addr} {c : Nat} {TA : Option Addr} {tc : Nat} (h : InsPt W B x A c TA tc) (hk : ∀ b, b < B → W'.heap[b]? = W.heap[b]?) (hB : B ≤ B') : InsPt W' B' x A c TA tc :=
  ⟨h.1.keep hk hB, h.2.keep (fun b _ hb => hk b hb) (Nat.le_refl _) hB⟩
theorem InsAt.cells15 {w : World} {B g o : Nat} {x : Ins} (h : InsAt w B x g o) : ∃ A c TA tc EA ec, (∀ i, i < 15 → w.cell? ⟨g, o + i, none⟩ = (insC x A c TA tc EA ec)[i]?) ∧ InsPt w B x A c TA tc := by
  obtain ⟨A, c, TA, tc, EA, ec, ⟨h0, h1, h2, h3, h4, h5, h6, h7, h8, h9, h10, h11, h12, h13, h14⟩, hi, ht⟩ := h
  refine ⟨A, c, TA, tc, EA, ec, fun i hi => ?_, hi, ht⟩
  match i, hi with
  | 0, _ => exact h0
  | 1, _ => exact h1
  | 2, _ => exact h2
  | 3, _ => exact h3
  | 4, _ => exact h4
  | 5, _ => exact h5
  | 6, _ => exact h6
  | 7, _ => exact h7
  | 8, _ => exact h8
  | 9, _ => exact h9
  | 10, _ => exact h10
  | 11, _ => exact h11
  | 12, _ => exact h12
  | 13, _ => exact h13
  | 14, _ => exact h14
theorem InsAt.of15 {w : World} {B g o : Nat} {x : Ins} {A : Option Addr} {c : Nat} {TA : Option Addr} {tc : Nat} {EA : Option Addr} {ec : Nat} (hc : ∀ i, i < 15 → w.cell? ⟨g, o + i, none⟩ = (insC x A c TA tc EA ec)[i]?) (h : InsPt w B x A c TA tc) : InsAt w B x g o :=
  ⟨A, c, TA, tc, EA, ec, ⟨hc 0 (by decide), hc 1 (by decide), hc 2 (by decide), hc 3 (by decide), hc 4 (by decide), hc 5 (by decide), hc 6 (by decide), hc 7 (by decide), hc 8 (by decide), hc 9 (by decide), hc 10 (by decide), hc 11 (by decide), hc 12 (by decide), hc 13 (by decide), hc 14 (by decide)⟩, h.1, h.2⟩
theorem insC_one (x : Ins) (A : Option Addr) (c : Nat) (TA : Option Addr) (tc : Nat) (EA : Option Addr) (ec : Nat) : ∀ u ∈ insC x A c TA tc EA ec, u.oneCell' = true := by
  intro u hu
  simp only [insC, List.mem_cons, List.not_mem_nil, or_false] at hu
  rcases hu with rfl | rfl | rfl | rfl | rfl | rfl | rfl | rfl | rfl | rfl | rfl | rfl | rfl | rfl | rfl <;> rfl
/-- The cells xs are the instructions l; what they point to lies below B. -/
def Cells15 (W : World) (B : Nat) (l : List Ins) (xs : List Value) : Prop := xs.length = l.length * 15 ∧ ∀ (j : Nat) (hj : j < l.length), ∃ A c TA tc EA ec, (∀ i, i < 15 → xs[j * 15 + i]? = (insC l[j] A c TA tc EA ec)[i]?) ∧ InsPt W B l[j] A c TA tc
theorem Cells15.keep {W W' : World} {B B' : Nat} {l : List Ins} {xs : List Value} (h : Cells15 W B l xs) (hk : ∀ b, b < B → W'.heap[b]? = W.heap[b]?) (hB : B ≤ B') : Cells15 W' B' l xs :=
  ⟨h.1, fun j hj => by
    obtain ⟨A, c, TA, tc, EA, ec, h1, h2⟩ := h.2 j hj
    exact ⟨A, c, TA, tc, EA, ec, h1, h2.keep hk hB⟩⟩
theorem cells15_of {w : World} {B : Nat} {l : List Ins} {A : Option Addr} {n c : Nat} (h : IsInsl w B l (.slice A n c)) : ∃ xs, Rd w B 15 xs A n ∧ Cells15 w B l xs ∧ ∀ u ∈ xs, u.oneCell' = true := by
  obtain ⟨A', c', hv, _, h⟩ := h
  simp only [Value.slice.injEq] at hv
  obtain ⟨rfl, rfl, rfl⟩ := hv
  rcases h with h0 | ⟨g, o, rfl, hg, h⟩
  · exact ⟨[], ⟨by simp [h0], .inl h0⟩, ⟨by simp [h0], fun j hj => by omega⟩, fun u hu => by cases hu⟩
  · have key : ∀ p, p < l.length * 15 → ∃ u, w.cell? ⟨g, o + p, none⟩ = some u ∧ u.oneCell' = true := fun p hp => by
      have hj : p / 15 < l.length := by omega
      obtain ⟨A, c, TA, tc, EA, ec, h1, _⟩ := (h (p / 15) hj).cells15
      have h2 := h1 (p % 15) (Nat.mod_lt _ (by decide))
      rw [show o + p / 15 * 15 + p % 15 = o + p by omega] at h2
      have h3 : p % 15 < (insC l[p / 15] A c TA tc EA ec).length := Nat.mod_lt _ (by decide)
      rw [List.getElem?_eq_getElem h3] at h2
      exact ⟨_, h2, insC_one _ _ _ _ _ _ _ _ (List.getElem_mem h3)⟩
    have hget : ∀ p, p < l.length * 15 → ((List.range (l.length * 15)).map fun p => (w.cell? ⟨g, o + p, none⟩).getD undef)[p]? = w.cell? ⟨g, o + p, none⟩ := fun p hp => by
      obtain ⟨u, hu, _⟩ := key p hp
      simp [hp, hu]
    refine ⟨(List.range (l.length * 15)).map fun p => (w.cell? ⟨g, o + p, none⟩).getD undef, ⟨by simp, .inr ⟨g, o, rfl, hg, fun j u hu => ?_⟩⟩, ⟨by simp, fun j hj => ?_⟩, fun u hu => ?_⟩
    · have hj : j < l.length * 15 := by
        have := (List.getElem?_eq_some_iff.1 hu).1
        simpa using this
      rw [hget j hj] at hu
      exact hu
    · obtain ⟨A, c, TA, tc, EA, ec, h1, h2⟩ := (h j hj).cells15
      refine ⟨A, c, TA, tc, EA, ec, fun i hi => ?_, h2⟩
      rw [hget _ (by omega), ← Nat.add_assoc]
      exact h1 i hi
    · obtain ⟨p, hp, rfl⟩ := List.mem_map.1 hu
      obtain ⟨u, hu, h1⟩ := key p (List.mem_range.1 hp)
      rw [hu]
      exact h1
/-- A row of its own that holds instructions. -/
theorem Cells15.insl {W : World} {base B n : Nat} {l : List Ins} {xs : List Value} {A : Option Addr} {cap : Nat} (h : Cells15 W B l xs) (ho : W.ownsRow base 38 15 (.slice A n cap) n xs) (hn : l.length = n) (hB : B ≤ W.heap.size) : IsInsl W W.heap.size l (.slice A n cap) := by
  subst hn
  rcases ho.2 with ⟨hv, h0⟩ | ⟨g, cap', cur, hv, hg, hh, hnc, _⟩
  · simp only [Value.slice.injEq] at hv
    obtain ⟨rfl, _, rfl⟩ := hv
    exact ⟨_, _, rfl, by omega, .inl h0⟩
  · simp only [Value.slice.injEq] at hv
    obtain ⟨rfl, _, rfl⟩ := hv
    refine ⟨_, _, rfl, hnc, .inr ⟨g, 0, rfl, (Array.getElem?_eq_some_iff.1 hh).1, fun j hj => ?_⟩⟩
    obtain ⟨A, c, TA, tc, EA, ec, h1, h2⟩ := h.2 j hj
    refine InsAt.of15 (EA := EA) (ec := ec) (fun i hi => ?_) (h2.keep (fun _ _ => rfl) hB)
    rw [Nat.zero_add, ho.cellAt (j * 15 + i) (by omega)]
    exact h1 i hi
/-- One cell of one instruction is set. -/
theorem insl_put {W1 : World} {base B0 g n cap : Nat} {l : List Ins} {xs : List Value} (hx : Cells15 W1 B0 l xs) (ho : W1.ownsRow base 38 15 (.slice (some ⟨g, 0, none⟩) n cap) n xs) (hn : l.length = n) (hB : B0 ≤ g) {k f : Nat} (hk : k < l.length) (hf : f < 15) {u : Value} {x' : Ins} {A' : Option Addr} {c' : Nat} {TA' : Option Addr} {tc' : Nat} {EA' : Option Addr} {ec' : Nat}
    {W : World} (hW : W = W1.setCell ⟨g, k * 15 + f, none⟩ u)
    (hput : ∀ A c TA tc EA ec, (∀ i, i < 15 → W1.cell? ⟨g, k * 15 + i, none⟩ = (insC l[k] A c TA tc EA ec)[i]?) → (∀ i, i < 15 → ((insC l[k] A c TA tc EA ec).set f u)[i]? = (insC x' A' c' TA' tc' EA' ec')[i]?))
    (hpt : InsPt W W.heap.size x' A' c' TA' tc') :
    IsInsl W W.heap.size (l.set k x') (.slice (some ⟨g, 0, none⟩) n cap) := by
  subst hn
  have hlt : g < W1.heap.size := (ho.lt g rfl).2
  have hsz : W.heap.size = W1.heap.size := by rw [hW]; simp [World.setCell]
  have hnc : l.length ≤ cap := by
    rcases ho.2 with ⟨hv, h0⟩ | ⟨g', cap', cur, hv, _, _, hnc, _⟩
    · omega
    · simp only [Value.slice.injEq] at hv
      obtain ⟨_, _, rfl⟩ := hv
      exact hnc
  have hcell : ∀ p, p < l.length * 15 → W1.cell? ⟨g, p, none⟩ = xs[p]? := fun p hp => ho.cellAt p hp
  have hother : ∀ p, p ≠ k * 15 + f → W.cell? ⟨g, p, none⟩ = W1.cell? ⟨g, p, none⟩ := fun p hp => by
    rw [hW]
    exact World.cell?_setCell_other _ _ _ _ (by intro h; simp only [Addr.mk.injEq] at h; omega)
  refine ⟨_, _, by rw [List.length_set], by rw [List.length_set]; exact hnc, .inr ⟨g, 0, rfl, by omega, fun j hj => ?_⟩⟩
  have hj0 := hj
  rw [List.length_set] at hj
  obtain ⟨A, c, TA, tc, EA, ec, h1, h2⟩ := hx.2 j hj
  rw [Nat.zero_add]
  by_cases hjk : j = k
  · subst hjk
    have e : (l.set j x')[j]'hj0 = x' := by simp
    rw [e]
    refine InsAt.of15 (EA := EA') (ec := ec') (fun i hi => ?_) hpt
    have h3 : ∀ i, i < 15 → W1.cell? ⟨g, j * 15 + i, none⟩ = (insC l[j] A c TA tc EA ec)[i]? := fun i hi => (hcell _ (by omega)).trans (h1 i hi)
    rw [← hput A c TA tc EA ec h3 i hi]
    by_cases hif : i = f
    · subst hif
      have h4 := h3 i hi
      rw [List.getElem?_eq_getElem (show i < (insC l[j] A c TA tc EA ec).length from hi)] at h4
      rw [hW, World.cell?_setCell_same _ _ _ h4, List.getElem?_set_self (show i < (insC l[j] A c TA tc EA ec).length from hi)]
    · rw [hother _ (by omega), h3 i hi, List.getElem?_set_ne (fun e => hif e.symm)]
  · have e : (l.set k x')[j]'hj0 = l[j] := by rw [List.getElem_set, if_neg (fun e => hjk e.symm)]
    rw [e]
    refine InsAt.of15 (EA := EA) (ec := ec) (fun i hi => ?_) (h2.keep (fun b hb => ?_) (by omega))
    · rw [hother _ (by omega), hcell _ (by omega)]
      exact h1 i hi
    · rw [hW]
      exact Below.heap_setCell _ _ _ _ (by show b ≠ g; omega)
end Go.Proofs.YtdjldmpfginkdaaGreatDoor
