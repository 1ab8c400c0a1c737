/- The generator of register code, as the laws want it.
  Register code headers in memory: boxes and rows of instructions.
  The last code of tellaw27.RegHeaders: what its parts leave, in whatever order they come up.
  Values (api.Value) in memory; contracts of telgen.typeSize, TypeSize, valueSize, ValueSize.
  Contract of tellaw27.large: where it answers false, the code is small.
  The three codes of tellaw27.RegCodes in memory. -/
import Derived.Test.YtdjldmpfginkdaaGreatDoorGenR
import Derived.Test.YtdjldmpfginkdaaGreatDoorGVal
import Derived.Test.YtdjldmpfginkdaaGreatDoorGGen
import Derived.Test.YtdjldmpfginkdaaGreatDoorGRegD
import Derived.Test.YtdjldmpfginkdaaGreatDoorGOrd
import Derived.Test.YtdjldmpfginkdaaGreatDoorGBase
import Derived.Test.YtdjldmpfginkdaaGreatDoorGRegB
namespace Go.Proofs.YtdjldmpfginkdaaGreatDoor
open Go.RowKit

theorem c_TGen3 (sb : Nat) (w : World) (h : TapeOk w sb 0) :
    Calls Tryz.prog 7 #[.pointer (some ⟨sb, 0, none⟩)] w fun e w' => ∃ (r : Rc) (cls : Value) (IA : Option Addr) (ic : Nat), e = .returned (.agg #[.int .i64 r.params, cls, .slice IA r.instrs.length ic, .slice none r.edits 0]) ∧
      RcAt w' w'.heap.size r cls IA ic ∧ 0 < r.instrs.length ∧ r.instrs.length ≤ 20 ∧ r.classes = cls7 ∧ r.edits = 0 ∧ w.grownBy w' (some sb) ∧ ∀ x ∈ r.instrs, x.args.length ≤ 2 := by
  refine (c_TGen sb w h).mono ?_
  rintro e w' ⟨p, l, cb, iv, rfl, hc, hi, hok, h0, h1, hg⟩
  obtain ⟨IA, ic, hiv, _⟩ := id hi
  subst hiv
  refine ⟨⟨p, cls7, l.map GI.ins, 0⟩, .slice (some ⟨cb, 0, none⟩) 7 7, IA, ic, rfl, ⟨ints_blk hc rfl (by omega), hi, fun x hx => (hok x hx).1⟩, by simpa using h0, by simpa using h1, rfl, rfl, hg, fun x hx => (hok x hx).2⟩
theorem c_TGen2 (sb : Nat) (w : World) (h : TapeOk w sb 0) :
    Calls Tryz.prog 7 #[.pointer (some ⟨sb, 0, none⟩)] w fun e w' => ∃ (r : Rc) (cls : Value) (IA : Option Addr) (ic : Nat), e = .returned (.agg #[.int .i64 r.params, cls, .slice IA r.instrs.length ic, .slice none r.edits 0]) ∧
      RcAt w' w'.heap.size r cls IA ic ∧ 0 < r.instrs.length ∧ r.instrs.length ≤ 20 ∧ r.classes = cls7 ∧ r.edits = 0 ∧ w.grownBy w' (some sb) :=
  (c_TGen3 sb w h).mono fun _ _ ⟨r, cls, IA, ic, h1, h2, h3, h4, h5, h6, h7, _⟩ => ⟨r, cls, IA, ic, h1, h2, h3, h4, h5, h6, h7⟩
/-- What is older is kept. -/
theorem below_of_grownT {w w' : World} {sb B : Nat} (h : w.grownBy w' (some sb)) (h1 : B ≤ sb) (h2 : B ≤ w.heap.size) : Below B w w' :=
  ⟨h.os, h.tape, h.output, h.size, fun k hk => h.block k (by omega) (by intro e; injection e with e; omega)⟩
end Go.Proofs.YtdjldmpfginkdaaGreatDoor
namespace Go.Proofs.YtdjldmpfginkdaaGreatDoor
open Go.RowKit

/-- The instruction 'return register 0'. -/
def retIns : Ins := ⟨24, 0, 0, 0, 0, ⟨#[]⟩, [], zeroTy, 0, 0, ⟨#[]⟩, 0⟩
def nilIns : Ins := ⟨0, 0, 0, 0, 0, ⟨#[]⟩, [], zeroTy, 0, 0, ⟨#[]⟩, 0⟩
/-- A block holds a code's header. -/
def Box4 (W : World) (k : Nat) (u0 u1 u2 u3 : Value) : Prop := W.heap[k]? = some (.cells #[u0, u1, u2, u3] 26 (0, 0))
section
variable {W W' : World} {k : Nat} {u0 u1 u2 u3 v : Value}
theorem Box4.lt (h : Box4 W k u0 u1 u2 u3) : k < W.heap.size := (Array.getElem?_eq_some_iff.1 h).1
theorem Box4.below (h : Box4 W k u0 u1 u2 u3) (hb : Below W.heap.size W W') : Box4 W' k u0 u1 u2 u3 := (hb.block k h.lt).trans h
theorem Box4.cells (h : Box4 W k u0 u1 u2 u3) : (W.cell? ⟨k, 0, none⟩ = some (u0) ∧ W.cell? ⟨k, 1, none⟩ = some (u1) ∧ W.cell? ⟨k, 2, none⟩ = some (u2) ∧ W.cell? ⟨k, 3, none⟩ = some (u3)) := ⟨cell_of_row _ _ 0 _ _ _ h, cell_of_row _ _ 1 _ _ _ h, cell_of_row _ _ 2 _ _ _ h, cell_of_row _ _ 3 _ _ _ h⟩
theorem Box4.free (h : Box4 W k u0 u1 u2 u3) (i : Nat) : W.frozen? ⟨k, i, none⟩ = false := by
  have h' : W.heap[k]? = _ := h
  simp [World.frozen?, h']
theorem Box4.set0 (h : Box4 W k u0 u1 u2 u3) : Box4 (W.setCell ⟨k, 0, none⟩ v) k v u1 u2 u3 := heap_setCell_same W k 0 _ _ _ h
theorem Box4.set1 (h : Box4 W k u0 u1 u2 u3) : Box4 (W.setCell ⟨k, 1, none⟩ v) k u0 v u2 u3 := heap_setCell_same W k 1 _ _ _ h
theorem Box4.ne (h : Box4 W k u0 u1 u2 u3) {c : Nat} (hne : k ≠ c) (i : Nat) (u : Value) : Box4 (W.setCell ⟨c, i, none⟩ u) k u0 u1 u2 u3 := (Below.heap_setCell _ _ _ _ (by show k ≠ c; exact hne)).trans h
end
/-- The four boxes. -/
structure Hd (w2 : World) (a b c : Nat) (p cl iv ed pa vb vc : Value) (W : World) : Prop where
  r : Box4 W w2.heap.size p cl iv ed
  A : Box4 W a pa cl iv ed
  B : Box4 W b p vb iv ed
  C : Box4 W c p vc iv ed
  bw : Below w2.heap.size w2 W
  sz : w2.heap.size + 4 ≤ W.heap.size
section
variable {w2 W W' : World} {a b c : Nat} {p cl iv ed pa vb vc v : Value}
theorem Hd.step (h : Hd w2 a b c p cl iv ed pa vb vc W) (hb : Below W.heap.size W W') : Hd w2 a b c p cl iv ed pa vb vc W' :=
  ⟨h.r.below hb, h.A.below hb, h.B.below hb, h.C.below hb, below_step h.bw hb, Nat.le_trans h.sz hb.size⟩
theorem Hd.setA (h : Hd w2 a b c p cl iv ed pa vb vc W) (h1 : w2.heap.size < a) (h2 : a ≠ b) (h3 : a ≠ c) : Hd w2 a b c p cl iv ed v vb vc (W.setCell ⟨a, 0, none⟩ v) :=
  ⟨h.r.ne (by omega) _ _, h.A.set0, h.B.ne (by omega) _ _, h.C.ne (by omega) _ _, below_set h.bw (by omega) _ _, by simpa [World.setCell] using h.sz⟩
theorem Hd.setB (h : Hd w2 a b c p cl iv ed pa vb vc W) (h1 : w2.heap.size < b) (h2 : a ≠ b) (h3 : b ≠ c) : Hd w2 a b c p cl iv ed pa v vc (W.setCell ⟨b, 1, none⟩ v) :=
  ⟨h.r.ne (by omega) _ _, h.A.ne (by omega) _ _, h.B.set1, h.C.ne (by omega) _ _, below_set h.bw (by omega) _ _, by simpa [World.setCell] using h.sz⟩
theorem Hd.setC (h : Hd w2 a b c p cl iv ed pa vb vc W) (h1 : w2.heap.size < c) (h2 : a ≠ c) (h3 : b ≠ c) : Hd w2 a b c p cl iv ed pa vb v (W.setCell ⟨c, 1, none⟩ v) :=
  ⟨h.r.ne (by omega) _ _, h.A.ne (by omega) _ _, h.B.ne (by omega) _ _, h.C.set1, below_set h.bw (by omega) _ _, by simpa [World.setCell] using h.sz⟩
theorem heads4 (w2 : World) (u0 u1 u2 u3 : Value) {a b c : Nat} (h : w2.heap.size < a ∧ w2.heap.size < b ∧ w2.heap.size < c ∧ a ≤ w2.heap.size + 3 ∧ b ≤ w2.heap.size + 3 ∧ c ≤ w2.heap.size + 3) :
    Hd w2 a b c u0 u1 u2 u3 u0 u1 u1 ((((w2.alloc (.cells #[u0, u1, u2, u3] 26)).alloc (.cells #[u0, u1, u2, u3] 26)).alloc (.cells #[u0, u1, u2, u3] 26)).alloc (.cells #[u0, u1, u2, u3] 26)).drew := by
  have key : ∀ k, w2.heap.size ≤ k → k ≤ w2.heap.size + 3 → Box4 ((((w2.alloc (.cells #[u0, u1, u2, u3] 26)).alloc (.cells #[u0, u1, u2, u3] 26)).alloc (.cells #[u0, u1, u2, u3] 26)).alloc (.cells #[u0, u1, u2, u3] 26)).drew k u0 u1 u2 u3 := fun k h1 h2 => by
    have h3 : k = w2.heap.size ∨ k = w2.heap.size + 1 ∨ k = w2.heap.size + 2 ∨ k = w2.heap.size + 3 := by omega
    rcases h3 with rfl | rfl | rfl | rfl
    · exact blk_old (blk_old (blk_old (blk_new _ _)))
    · exact blk_old (blk_old (blk_eq _ _ (by simp)))
    · exact blk_old (blk_eq _ _ (by simp))
    · exact blk_eq _ _ (by simp)
  exact ⟨key _ (by omega) (by omega), key _ (by omega) (by omega), key _ (by omega) (by omega), key _ (by omega) (by omega), (below_step (below_step (below_step (below_new w2 _) (below_new _ _)) (below_new _ _)) (below_new _ _)).drew, by simp⟩
end
/-- The cells of the two instructions. -/
def cellsOf (op : Int) : Array Value := gcell op 0 0 0 0 ⟨#[]⟩ (.slice none 0 0) 0 0 ⟨#[]⟩
theorem madeCells_at {z : Array Value} {n j i : Nat} (hi : i < z.size) (hj : j < n) : (madeCells z (n * z.size))[j * z.size + i]? = z[i]? := by
  have h1 : j * z.size + i < n * z.size := by
    have : (j + 1) * z.size ≤ n * z.size := Nat.mul_le_mul_right _ hj
    rw [Nat.succ_mul] at this
    omega
  unfold madeCells
  rw [Array.getElem?_map, Array.getElem?_eq_getElem (by simpa using h1)]
  simp only [Array.getElem_range, Option.map_some]
  rw [Nat.mul_comm, Nat.mul_add_mod, Nat.mod_eq_of_lt hi]
  simp [hi]
/-- Block d: the first k instructions are returns, the others are zero. -/
def RowD (d n k : Nat) (W : World) : Prop := ∃ cs : Array Value, W.heap[d]? = some (.cells cs 38 (0, 0)) ∧ cs.size = n * 15 ∧ ∀ j i, j < n → i < 15 → cs[j * 15 + i]? = (cellsOf (if j < k then 24 else 0))[i]?
theorem made_instrs (W : World) (n : Nat) (hn : n ≤ 2 ^ 30) : (Instr.makeSlice 23 (.int .i64 n) (.int .i64 n)).run Tryz.prog W = .ok (.slice (some ⟨W.heap.size, 0, none⟩) n n) (W.alloc (.cells (madeCells (cellsOf 0) (n * 15)) 38)) := by
  obtain ⟨i0, hi0, hz0, hz1, hz2⟩ := info_parts info_instr
  have := run_make (P := Tryz.prog) W 23 38 i0 _ Tryz.underlying23 hi0 hz0 .i64 .i64 n n (by omega) (Int.le_refl _) (by rw [hz2]; omega) (by omega)
  rw [hz1] at this
  simp only [Int.toNat_natCast] at this
  exact this
theorem RowD.start (W : World) (n : Nat) : RowD W.heap.size n 0 (W.alloc (.cells (madeCells (cellsOf 0) (n * 15)) 38)) := by
  refine ⟨_, blk_new _ _, size_madeCells _ _, fun j i hj hi => ?_⟩
  rw [if_neg (by omega)]
  exact madeCells_at (z := cellsOf 0) (by exact hi) hj
theorem RowD.lt {d n k : Nat} {W : World} (h : RowD d n k W) : d < W.heap.size := by
  obtain ⟨cs, h1, _⟩ := h
  exact (Array.getElem?_eq_some_iff.1 h1).1
theorem RowD.below {d n k : Nat} {W W' : World} (h : RowD d n k W) (hb : Below W.heap.size W W') : RowD d n k W' := by
  obtain ⟨cs, h1, h2⟩ := h
  exact ⟨cs, (hb.block d (Array.getElem?_eq_some_iff.1 h1).1).trans h1, h2⟩
theorem RowD.free {d n k : Nat} {W : World} (h : RowD d n k W) (i : Nat) : W.frozen? ⟨d, i, none⟩ = false := by
  obtain ⟨cs, h1, _⟩ := h
  simp [World.frozen?, h1]
theorem RowD.cell {d n k : Nat} {W : World} (h : RowD d n k W) {j : Nat} (hj : j < n) (i : Nat) (hi : i < 15) : W.cell? ⟨d, j * 15 + i, none⟩ = (cellsOf (if j < k then 24 else 0))[i]? := by
  obtain ⟨cs, h1, _, h2⟩ := h
  rw [cell_of_row _ _ _ _ _ _ h1]
  exact h2 j i hj hi
/-- One element anew. -/
theorem RowD.put {d n k : Nat} {W : World} (h : RowD d n k W) (hk : k < n) : RowD d n (k + 1) (W.setCells d (k * 15) (cellsOf 24).toList) := by
  obtain ⟨cs, h1, h2, h3⟩ := h
  have hb : (k + 1) * 15 ≤ n * 15 := Nat.mul_le_mul_right _ hk
  have hl : (cellsOf 24).toList.length = 15 := rfl
  refine ⟨_, heap_setCells_at _ _ _ _ h1, by rw [setMany_size]; exact h2, fun j i hj hi => ?_⟩
  rw [← Array.getElem?_toList, setMany_list _ _ _ (by rw [hl]; omega), List.append_assoc]
  rcases Nat.lt_trichotomy j k with e | e | e
  · rw [List.getElem?_append_left (by simp; omega), List.getElem?_take_of_lt (by omega), Array.getElem?_toList, h3 j i hj hi, if_pos e, if_pos (by omega)]
  · subst e
    rw [List.getElem?_append_right (by simp; omega), List.getElem?_append_left (by rw [hl]; simp; omega), if_pos (by omega), Array.getElem?_toList]
    congr 1
    simp
    omega
  · rw [List.getElem?_append_right (by simp; omega), List.getElem?_append_right (by rw [hl]; simp; omega), List.getElem?_drop, Array.getElem?_toList, if_neg (by omega)]
    have h4 := h3 j i hj hi
    rw [if_neg (by omega)] at h4
    rw [← h4]
    congr 1
    rw [hl]
    simp
    omega
theorem retIns_ok : InsOk retIns := by
  refine ⟨?_, by decide, by decide, by decide⟩
  unfold retIns zeroTy
  rw [Ty.ok]
  exact ⟨by unfold inI; omega, by unfold inI; omega, by rw [Ty.oks]; trivial⟩
theorem RowD.insl {d n : Nat} {W : World} (h : RowD d n n W) : IsInsl W W.heap.size (List.replicate n retIns) (.slice (some ⟨d, 0, none⟩) n n) := by
  refine ⟨some ⟨d, 0, none⟩, n, by simp, by simp, .inr ⟨d, 0, rfl, h.lt, fun j hj => ?_⟩⟩
  have hj' : j < n := by simpa using hj
  rw [List.getElem_replicate]
  have hc : ∀ i, i < 15 → W.cell? ⟨d, 0 + j * 15 + i, none⟩ = (cellsOf 24)[i]? := fun i hi => by
    have := h.cell hj' i hi
    rw [if_pos hj'] at this
    rw [Nat.zero_add]
    exact this
  exact ⟨none, 0, none, 0, none, 0, ⟨hc 0 (by decide), hc 1 (by decide), hc 2 (by decide), hc 3 (by decide), hc 4 (by decide), hc 5 (by decide), hc 6 (by decide), hc 7 (by decide), hc 8 (by decide), hc 9 (by decide), hc 10 (by decide), hc 11 (by decide), hc 12 (by decide), hc 13 (by decide), hc 14 (by decide)⟩, IsInts.nil _ _, ⟨none, 0, rfl, Nat.le_refl _, .inl rfl⟩⟩
section
variable {W : World} {d o : Nat} {vs : List Value}
theorem below_sets {B : Nat} {w9 : World} (h : Below B w9 W) (hd : B ≤ d) : Below B w9 (W.setCells d o vs) := by
  obtain ⟨h1, h2, h3, h4, h5⟩ := setCells_frame (b := d) vs o W
  exact ⟨h1.trans h.os, h2.trans h.tape, h3.trans h.output, by rw [h4]; exact h.size, fun k hk => (h5 k (by omega)).trans (h.block k hk)⟩
theorem Box4.sets {k : Nat} {u0 u1 u2 u3 : Value} (h : Box4 W k u0 u1 u2 u3) (hne : k ≠ d) : Box4 (W.setCells d o vs) k u0 u1 u2 u3 := ((setCells_frame (b := d) vs o W).2.2.2.2 k hne).trans h
theorem RowV.sets {k : Nat} {T : TypeId} {us : List Value} (h : RowV W k T us) (hne : k ≠ d) : RowV (W.setCells d o vs) k T us := ((setCells_frame (b := d) vs o W).2.2.2.2 k hne).trans h
end
theorem IsInsl.more {w : World} {B B' : Nat} {xs : List Ins} {v : Value} (h : IsInsl w B xs v) (hB : B ≤ B') : IsInsl w B' xs v := by
  obtain ⟨A, c, hv, hc, h⟩ := h
  refine ⟨A, c, hv, hc, ?_⟩
  rcases h with h | ⟨g, o, hA, hg, h⟩
  · exact .inl h
  · refine .inr ⟨g, o, hA, by omega, fun j hj => ?_⟩
    obtain ⟨A, c, TA, tc, EA, ec, hc, hi, ht⟩ := h j hj
    exact ⟨A, c, TA, tc, EA, ec, hc, hi.more hB, ht.more (Nat.le_refl _) hB⟩
theorem ints_rep (m : Nat) : ints (List.replicate m 0) = List.replicate m (.int .i64 0) := by
  unfold ints
  rw [List.map_replicate]
end Go.Proofs.YtdjldmpfginkdaaGreatDoor
namespace Go.Proofs.YtdjldmpfginkdaaGreatDoor
open Go.RowKit

def K13 (B : Nat) (n1 : Int) : Nat → Value → World → Prop
  | 0, v, _ => v = .int .i64 n1
  | 1, v, _ => ∃ y : Int, v = .int .i64 y ∧ 5 ≤ y ∧ y ≤ 8
  | 2, v, W => ∃ e : Nat, v = .slice (some ⟨e, 0, none⟩) 10 10 ∧ RowV W e 3 (ints (List.replicate 10 0))
  | 3, v, _ => v = .agg (cellsOf 24)
  | 4, v, W => ∃ e : Nat, v = .slice (some ⟨e, 0, none⟩) 1 1 ∧ W.heap[e]? = some (.cells (cellsOf 24) 38 (0, 0))
  | 5, v, W => ∃ (y : Int) (e1 e2 : Nat), v = .agg #[.int .i64 y, .slice (some ⟨e1, 0, none⟩) 10 10, .slice (some ⟨e2, 0, none⟩) 1 1, .slice none 0 0] ∧ 5 ≤ y ∧ y ≤ 8 ∧ RowV W e1 3 (ints (List.replicate 10 0)) ∧ W.heap[e2]? = some (.cells (cellsOf 24) 38 (0, 0))
  | _, v, W => ∃ e : Nat, v = .pointer (some ⟨e, 0, none⟩) ∧ B ≤ e ∧ Box4 W e (.int .i64 0) (.slice none 0 0) (.slice none 0 0) (.slice none 0 0)
theorem blk_keep {W W' : World} {e : Nat} {o : Obj} (h : W.heap[e]? = some o) (hb : Below W.heap.size W W') : W'.heap[e]? = some o := (hb.block e (Array.getElem?_eq_some_iff.1 h).1).trans h
theorem K13.keep {B : Nat} {n1 : Int} : ∀ (j : Nat) (v : Value) (W W' : World), K13 B n1 j v W → Below W.heap.size W W' → K13 B n1 j v W'
  | 0, _, _, _, h, _ => h
  | 1, _, _, _, h, _ => h
  | 2, _, _, _, ⟨e, h1, h2⟩, hb => ⟨e, h1, RowV.below h2 hb⟩
  | 3, _, _, _, h, _ => h
  | 4, _, _, _, ⟨e, h1, h2⟩, hb => ⟨e, h1, blk_keep h2 hb⟩
  | 5, _, _, _, ⟨y, e1, e2, h1, h2, h3, h4, h5⟩, hb => ⟨y, e1, e2, h1, h2, h3, RowV.below h4 hb, blk_keep h5 hb⟩
  | _ + 6, _, _, _, ⟨e, h1, h2, h3⟩, hb => ⟨e, h1, h2, h3.below hb⟩
/-- The box is filled. -/
theorem heads_fin {wr W : World} {e e1 e2 : Nat} {y : Int} (hb : Below wr.heap.size wr W) (he : wr.heap.size ≤ e) (h : Box4 W e (.int .i64 0) (.slice none 0 0) (.slice none 0 0) (.slice none 0 0)) (h1 : RowV W e1 3 (ints (List.replicate 10 0))) (h2 : W.heap[e2]? = some (.cells (cellsOf 24) 38 (0, 0))) :
    ∀ wx : World, wx = (((W.setCell ⟨e, 0, none⟩ (.int .i64 y)).setCell ⟨e, 1, none⟩ (.slice (some ⟨e1, 0, none⟩) 10 10)).setCell ⟨e, 2, none⟩ (.slice (some ⟨e2, 0, none⟩) 1 1)).setCell ⟨e, 3, none⟩ (.slice none 0 0) →
      Box4 wx e (.int .i64 y) (.slice (some ⟨e1, 0, none⟩) 10 10) (.slice (some ⟨e2, 0, none⟩) 1 1) (.slice none 0 0) ∧ RowV wx e1 3 (ints (List.replicate 10 0)) ∧ wx.heap[e2]? = some (.cells (cellsOf 24) 38 (0, 0)) ∧ Below wr.heap.size wr wx := by
  rintro wx rfl
  have n1 : e1 ≠ e := fun q => by
    subst q
    have h' : W.heap[e1]? = _ := h
    have h1' : W.heap[e1]? = _ := h1
    rw [h'] at h1'
    simp at h1'
  have n2 : e2 ≠ e := fun q => by
    subst q
    have h' : W.heap[e2]? = _ := h
    rw [h'] at h2
    simp at h2
  have hk : ∀ (V : World) (b i : Nat) (u : Value), b ≠ e → (V.setCell ⟨e, i, none⟩ u).heap[b]? = V.heap[b]? := fun V b i u hb => Below.heap_setCell _ _ _ _ (by show b ≠ e; exact hb)
  have b0 := heap_setCell_same W e 0 _ _ (.int .i64 y) h
  have b1 := heap_setCell_same _ e 1 _ _ (.slice (some ⟨e1, 0, none⟩) 10 10) b0
  have b2 := heap_setCell_same _ e 2 _ _ (.slice (some ⟨e2, 0, none⟩) 1 1) b1
  have b3 := heap_setCell_same _ e 3 _ _ (.slice none 0 0) b2
  refine ⟨b3, ?_, ?_, below_set (below_set (below_set (below_set hb he _ _) he _ _) he _ _) he _ _⟩
  · exact RowV.keep h1 ((hk _ _ _ _ n1).trans ((hk _ _ _ _ n1).trans ((hk _ _ _ _ n1).trans (hk _ _ _ _ n1))))
  · exact ((hk _ _ _ _ n2).trans ((hk _ _ _ _ n2).trans ((hk _ _ _ _ n2).trans (hk _ _ _ _ n2)))).trans h2
end Go.Proofs.YtdjldmpfginkdaaGreatDoor
namespace Go.Proofs.YtdjldmpfginkdaaGreatDoor
open Go.RowKit

structure Vl where
  kind : Int
  num : Int
  str : ByteArray
  elems : List Vl
mutual
def Vl.size : Vl → Nat
  | ⟨_, _, _, es⟩ => 1 + Vl.sizes es
def Vl.sizes : List Vl → Nat
  | [] => 0
  | t :: ts => Vl.size t + Vl.sizes ts
 end
theorem Vl.size_eq (t : Vl) : t.size = 1 + Vl.sizes t.elems := by cases t; rw [Vl.size]
theorem Vl.size_get : ∀ {ts : List Vl} (j : Nat) (hj : j < ts.length), ts[j].size ≤ Vl.sizes ts
  | [], _, hj => absurd hj (by simp)
  | t :: ts, 0, _ => by rw [Vl.sizes]; exact Nat.le_add_right _ _
  | t :: ts, j + 1, hj => by
    rw [Vl.sizes]
    have := Vl.size_get j (by simpa using hj)
    simp only [List.getElem_cons_succ]
    omega
mutual
def IsVl (w : World) (B : Nat) : Vl → Value → Prop
  | ⟨k, i, s, es⟩, v => ∃ A c, v = .agg #[.int .i64 k, .int .i64 i, .string s, .slice A es.length c] ∧ s.size ≤ maxLen ∧ (es.length = 0 ∨ ∃ g o, A = some ⟨g, o, none⟩ ∧ g < B ∧ IsVls w B es g o)
def IsVls (w : World) (B : Nat) : List Vl → Nat → Nat → Prop
  | [], _, _ => True
  | t :: ts, g, o => (∃ v0 v1 v2 v3, w.cell? ⟨g, o, none⟩ = some v0 ∧ w.cell? ⟨g, o + 1, none⟩ = some v1 ∧ w.cell? ⟨g, o + 2, none⟩ = some v2 ∧ w.cell? ⟨g, o + 3, none⟩ = some v3 ∧ IsVl w B t (.agg #[v0, v1, v2, v3])) ∧ IsVls w B ts g (o + 4)
 end
mutual
theorem IsVl.keep {w w' : World} {B B' : Nat} (hk : ∀ b, b < B → w'.heap[b]? = w.heap[b]?) (h2 : B ≤ B') : ∀ {t : Vl} {v : Value}, IsVl w B t v → IsVl w' B' t v
  | ⟨k, i, s, es⟩, v => by
    intro h
    unfold IsVl at h ⊢
    obtain ⟨A, c, hv, hs, h⟩ := h
    refine ⟨A, c, hv, hs, ?_⟩
    rcases h with h | ⟨g, o, hA, hb, h⟩
    · exact .inl h
    · exact .inr ⟨g, o, hA, by omega, IsVls.keep hk h2 hb h⟩
theorem IsVls.keep {w w' : World} {B B' : Nat} {g : Nat} (hk : ∀ b, b < B → w'.heap[b]? = w.heap[b]?) (h2 : B ≤ B') (hg2 : g < B) : ∀ {ts : List Vl} {o : Nat}, IsVls w B ts g o → IsVls w' B' ts g o
  | [], o => by intro _; unfold IsVls; trivial
  | t :: ts, o => by
    intro h
    unfold IsVls at h ⊢
    obtain ⟨⟨v0, v1, v2, v3, c0, c1, c2, c3, ht⟩, hs⟩ := h
    refine ⟨⟨v0, v1, v2, v3, ?_, ?_, ?_, ?_, IsVl.keep hk h2 ht⟩, IsVls.keep hk h2 hg2 hs⟩ <;> rw [World.cell?_of_block (w := w) (hk g hg2)] <;> assumption
 end
theorem IsVl.below {w w' : World} {B C : Nat} {t : Vl} {v : Value} (h : IsVl w B t v) (hb : Below C w w') (hB : B ≤ C) : IsVl w' B t v :=
  h.keep (fun b hb' => hb.block b (by omega)) (Nat.le_refl _)
theorem IsVls.get {w : World} {B g : Nat} : ∀ {ts : List Vl} {o : Nat} (j : Nat) (hj : j < ts.length), IsVls w B ts g o →
    ∃ v0 v1 v2 v3, w.cell? ⟨g, o + j * 4, none⟩ = some v0 ∧ w.cell? ⟨g, o + j * 4 + 1, none⟩ = some v1 ∧ w.cell? ⟨g, o + j * 4 + 2, none⟩ = some v2 ∧ w.cell? ⟨g, o + j * 4 + 3, none⟩ = some v3 ∧ IsVl w B ts[j] (.agg #[v0, v1, v2, v3])
  | [], o, j, hj, _ => absurd hj (by simp)
  | t :: ts, o, 0, hj, h => by
    unfold IsVls at h
    obtain ⟨⟨v0, v1, v2, v3, c0, c1, c2, c3, ht⟩, hs⟩ := h
    exact ⟨v0, v1, v2, v3, by simpa using c0, by simpa using c1, by simpa using c2, by simpa using c3, ht⟩
  | t :: ts, o, j + 1, hj, h => by
    unfold IsVls at h
    obtain ⟨_, hs⟩ := h
    have := IsVls.get j (by simpa using hj) hs
    have e : o + (j + 1) * 4 = o + 4 + j * 4 := by omega
    rw [e]
    simpa using this
/-- A slice of values. -/
def IsVll (w : World) (B : Nat) (ts : List Vl) (v : Value) : Prop :=
  ∃ A c, v = .slice A ts.length c ∧ (ts.length = 0 ∨ ∃ g o, A = some ⟨g, o, none⟩ ∧ g < B ∧ IsVls w B ts g o)
theorem IsVl.args_ {w : World} {B : Nat} {t : Vl} {v : Value} (h : IsVl w B t v) :
    ∃ A c, v = .agg #[.int .i64 t.kind, .int .i64 t.num, .string t.str, .slice A t.elems.length c] ∧ t.str.size ≤ maxLen ∧ IsVll w B t.elems (.slice A t.elems.length c) := by
  cases t
  unfold IsVl at h
  obtain ⟨A, c, hv, hs, h⟩ := h
  exact ⟨A, c, hv, hs, A, c, rfl, h⟩
/-- The element j of a slice of values, in a world that has kept it. -/
theorem IsVll.at_ {w w' : World} {B : Nat} {ts : List Vl} {A : Option Addr} {n c : Nat} (h : IsVll w B ts (.slice A n c)) (hk : ∀ b, b < B → w'.heap[b]? = w.heap[b]?) {j : Nat} (hj : j < n) :
    ∃ g o A' c', ∃ hj' : j < ts.length, A = some ⟨g, o, none⟩ ∧ g < B ∧ w'.cell? ⟨g, o + j * 4, none⟩ = some (.int .i64 ts[j].kind) ∧ w'.cell? ⟨g, o + j * 4 + 1, none⟩ = some (.int .i64 ts[j].num) ∧
      w'.cell? ⟨g, o + j * 4 + 2, none⟩ = some (.string ts[j].str) ∧ w'.cell? ⟨g, o + j * 4 + 3, none⟩ = some (.slice A' ts[j].elems.length c') ∧
      IsVl w' B ts[j] (.agg #[.int .i64 ts[j].kind, .int .i64 ts[j].num, .string ts[j].str, .slice A' ts[j].elems.length c']) := by
  obtain ⟨A', c', hv, hh⟩ := h
  simp only [Value.slice.injEq] at hv
  obtain ⟨rfl, rfl, rfl⟩ := hv
  rcases hh with h | ⟨g, o, rfl, hb, h⟩
  · omega
  · obtain ⟨v0, v1, v2, v3, c0, c1, c2, c3, ht⟩ := IsVls.get j hj (IsVls.keep hk (Nat.le_refl _) hb h)
    obtain ⟨A', c', e, _⟩ := ht.args_
    simp only [Value.agg.injEq, Array.mk.injEq, List.cons.injEq, and_true] at e
    obtain ⟨rfl, rfl, rfl, rfl⟩ := e
    exact ⟨g, o, A', c', hj, rfl, hb, c0, c1, c2, c3, ht⟩
set_option maxHeartbeats 400000 in
theorem c_typeSize (N : Nat) : ∀ (t : Ty) (n : Nat) (w : World) (L B : Nat) (v : Value), t.size ≤ N → IsTy w L B t v → B ≤ w.heap.size → n < 1000 →
    Calls Tryz.prog 59 #[v, .int .i64 n] w fun e w' => (∃ m : Nat, e = .returned (.int .i64 m) ∧ n < m ∧ m ≤ 1000 ∧ (m < 1000 → m = n + t.size)) ∧ Below w.heap.size w w' := by
  induction N with
  | zero => intro t n w L B v h; have := t.size_pos; omega
  | succ N ih =>
  intro t n0 w L B v hN ht0 hB hn1
  obtain ⟨A, c, rfl, hv⟩ := ht0.args_
  clear ht0
  rw [Ty.size_eq] at hN ⊢
  generalize t.kind = k, t.name = nm, t.index = ix, t.args = args at *
  have HV := Lib.hid hv; clear hv
  have IH := Lib.hid ih; clear ih
  generalize hn : args.length = n at *
  have Hn := Lib.hid hn; clear hn
  go_enter Tryz.func59, Tryz.ntmps59
  go_wp2
  go_loopw [1, 5] (fun s i wr => ∃ j m : Nat, j ≤ n ∧ i = .int .i64 j ∧ s = .int .i64 m ∧ n0 < m ∧ m ≤ 1000 ∧ (j ≤ m) ∧ Hid (m < 1000 → m = n0 + 1 + Ty.sizes (args.take j)) ∧ wr.cell? ⟨w.heap.size, 3, none⟩ = some (.slice A n c) ∧ Below w.heap.size w wr ∧ w.heap.size < wr.heap.size) (fun _ i _ => n - (intOf i).toNat)
  case atStart => exact ⟨0, n0 + 1, by omega, rfl, by go_num, by omega, by omega, by omega, Lib.hid (fun _ => by simp [Ty.sizes]), by simp, by exact (Below.refl _ _).alloc (Nat.le_refl _) _, by simp⟩
  case round =>
    obtain ⟨j, m, hj, rfl, rfl, hm0, hm1, hjm, HM, hc, hb, hlt⟩ := hrel
    by_cases hjn : j < n
    · by_cases hm : m < 1000
      · obtain ⟨g, o, A', c', hj', rfl, hg1, hg2, c0, c1, c2, c3, ht⟩ := HV.out.at_ (KeepIn.of_below hb hB) hjn
        have hg := Ty.size_get j hj'
        have hs := Lib.hid (Ty.sizes_take j hj')
        have HT := Lib.hid ht
        clear ht
        generalize args[j] = tj at *
        have hj1 : (j : Int) < (n : Int) := by omega
        have hm2 : (m : Int) < 1000 := by omega
        go_wp2_with fail
        refine (IH.out tj m _ L B _ (by omega) HT.out (by have := hb.size; omega) hm).mono ?_
        rintro e w' ⟨⟨m', rfl, h1, h2, h3⟩, hb'⟩
        have HM2 : Hid (m' < 1000 → m' = n0 + 1 + Ty.sizes (args.take (j + 1))) := Lib.hid (fun h => by
          have := h3 h
          have := HM.out hm
          rw [hs.out]
          omega)
        clear h3
        go_wp2
        go_roundw
        case rel => exact ⟨j + 1, m', by omega, by go_num, rfl, by omega, by omega, by omega, HM2, by rw [hb'.cell (by exact hlt)]; exact hc, hb.trans (hb'.mono (by omega)), by have := hb'.size; omega⟩
        case measure => simp [intOf]; omega
      · have hm2 : ¬ (m : Int) < 1000 := by omega
        have hj1 : (j : Int) < (n : Int) := by omega
        go_wp2
        go_ret
        exact ⟨⟨m, rfl, by omega, by omega, fun h => absurd h hm⟩, hb⟩
    · have : j = n := by omega
      subst this
      go_wp2
      go_ret
      exact ⟨⟨m, rfl, by omega, by omega, fun h => by
        have h2 := HM.out h
        rw [List.take_of_length_le (by rw [Hn.out]; exact Nat.le_refl _)] at h2
        omega⟩, hb⟩
theorem c_TypeSize (t : Ty) (w : World) (L B : Nat) (v : Value) (ht : IsTy w L B t v) (hB : B ≤ w.heap.size) :
    Calls Tryz.prog 32 #[v] w fun e w' => (∃ m : Nat, e = .returned (.int .i64 m) ∧ 0 < m ∧ m ≤ 1000 ∧ (m < 1000 → m = t.size)) ∧ Below w.heap.size w w' := by
  have HT := Lib.hid (fun (W : World) (hW : Below w.heap.size w W) => c_typeSize t.size t 0 W L B v (Nat.le_refl _) (ht.below hW hB) (Nat.le_trans hB hW.size) (by omega))
  obtain ⟨A, c, rfl, _⟩ := ht.args_
  clear ht
  go_enter Tryz.func32, Tryz.ntmps32
  go_wp2_with fail
  refine (HT.out _ (below_new _ _)).mono ?_
  rintro e w' ⟨⟨m, rfl, h1, h2, h3⟩, hb⟩
  have H3 := Lib.hid h3
  have hb2 := below_step (below_new w _) hb
  clear h3 hb
  go_wp2
  go_ret
  exact ⟨⟨m, rfl, h1, h2, fun h => by have := H3.out h; omega⟩, hb2⟩
set_option maxHeartbeats 400000 in
theorem c_valueSize (N : Nat) : ∀ (t : Vl) (n : Nat) (w : World) (B : Nat) (v : Value), t.size ≤ N → IsVl w B t v → B ≤ w.heap.size → n < 1000 →
    Calls Tryz.prog 60 #[v, .int .i64 n] w fun e w' => (∃ m : Nat, e = .returned (.int .i64 m) ∧ n + 1 + t.str.size / 100 ≤ m ∧ m ≤ 2 ^ 60) ∧ Below w.heap.size w w' := by
  induction N with
  | zero => intro t n w B v h; rw [Vl.size_eq] at h; omega
  | succ N ih =>
  intro t n0 w B v hN ht0 hB hn1
  obtain ⟨A, c, rfl, hs47, hv⟩ := ht0.args_
  clear ht0
  unfold maxLen at hs47
  rw [Vl.size_eq] at hN
  generalize t.kind = k, t.num = nm, t.str = str, t.elems = args at *
  have HV := Lib.hid hv; clear hv
  have IH := Lib.hid ih; clear ih
  generalize hn : args.length = n at *
  have Hn := Lib.hid hn; clear hn
  generalize hz : str.size = z at *
  go_enter Tryz.func60, Tryz.ntmps60
  go_wp2
  go_loopw [1, 5] (fun s i wr => ∃ j m : Nat, j ≤ n ∧ i = .int .i64 j ∧ s = .int .i64 m ∧ n0 + 1 + z / 100 ≤ m ∧ m ≤ 2 ^ 60 ∧ j ≤ m ∧ wr.cell? ⟨w.heap.size, 3, none⟩ = some (.slice A n c) ∧ Below w.heap.size w wr ∧ w.heap.size < wr.heap.size) (fun _ i _ => n - (intOf i).toNat)
  case atStart => exact ⟨0, n0 + 1 + z / 100, by omega, rfl, by go_num, by omega, by omega, by omega, by simp, by exact (Below.refl _ _).alloc (Nat.le_refl _) _, by simp⟩
  case round =>
    obtain ⟨j, m, hj, rfl, rfl, hm0, hm1, hjm, hc, hb, hlt⟩ := hrel
    by_cases hjn : j < n
    · by_cases hm : m < 1000
      · obtain ⟨g, o, A', c', hj', rfl, hg2, c0, c1, c2, c3, ht⟩ := HV.out.at_ (fun b hb' => hb.block b (by omega)) hjn
        have hg := Vl.size_get j hj'
        have HT := Lib.hid ht
        clear ht
        generalize args[j] = tj at *
        have hj1 : (j : Int) < (n : Int) := by omega
        have hm2 : (m : Int) < 1000 := by omega
        go_wp2_with fail
        refine (IH.out tj m _ B _ (by omega) HT.out (by have := hb.size; omega) hm).mono ?_
        rintro e w' ⟨⟨m', rfl, h1, h2⟩, hb'⟩
        go_wp2
        go_roundw
        case rel => exact ⟨j + 1, m', by omega, by go_num, rfl, by omega, by omega, by omega, by rw [hb'.cell (by exact hlt)]; exact hc, hb.trans (hb'.mono (by omega)), by have := hb'.size; omega⟩
        case measure => simp [intOf]; omega
      · have hm2 : ¬ (m : Int) < 1000 := by omega
        have hj1 : (j : Int) < (n : Int) := by omega
        go_wp2
        go_ret
        exact ⟨⟨m, rfl, by omega, by omega⟩, hb⟩
    · have : j = n := by omega
      subst this
      go_wp2
      go_ret
      exact ⟨⟨m, rfl, by omega, by omega⟩, hb⟩
theorem c_ValueSize (t : Vl) (w : World) (B : Nat) (v : Value) (ht : IsVl w B t v) (hB : B ≤ w.heap.size) :
    Calls Tryz.prog 33 #[v] w fun e w' => (∃ m : Nat, e = .returned (.int .i64 m) ∧ 1 + t.str.size / 100 ≤ m ∧ m ≤ 2 ^ 60) ∧ Below w.heap.size w w' := by
  have HT := Lib.hid (fun (W : World) (hW : Below w.heap.size w W) => c_valueSize t.size t 0 W B v (Nat.le_refl _) (ht.below hW hB) (Nat.le_trans hB hW.size) (by omega))
  obtain ⟨A, c, rfl, _, _⟩ := ht.args_
  clear ht
  go_enter Tryz.func33, Tryz.ntmps33
  go_wp2_with fail
  refine (HT.out _ (below_new _ _)).mono ?_
  rintro e w' ⟨⟨m, rfl, h1, h2⟩, hb⟩
  have hb2 := below_step (below_new w _) hb
  clear hb
  go_wp2
  go_ret
  exact ⟨⟨m, rfl, by omega, h2⟩, hb2⟩
end Go.Proofs.YtdjldmpfginkdaaGreatDoor
namespace Go.Proofs.YtdjldmpfginkdaaGreatDoor
open Go.RowKit
attribute [local go_sem ↓] Go.wp_at_zero Go.wp_at_succ

/-- An instruction whose constant is a value. -/
def InsAtV (w : World) (B : Nat) (x : Ins) (y : Vl) (g o : Nat) : Prop := ∃ (A : Option Addr) (c : Nat) (TA : Option Addr) (tc : Nat) (EA : Option Addr) (ec : Nat),
  ((w.cell? ⟨g, o, none⟩ = some (.int .i64 x.op) ∧ w.cell? ⟨g, o + 1, none⟩ = some (.int .i64 x.dst) ∧ w.cell? ⟨g, o + 2, none⟩ = some (.int .i64 x.a) ∧ w.cell? ⟨g, o + 3, none⟩ = some (.int .i64 x.b) ∧ w.cell? ⟨g, o + 4, none⟩ = some (.int .i64 x.imm) ∧ w.cell? ⟨g, o + 5, none⟩ = some (.string x.name) ∧ w.cell? ⟨g, o + 6, none⟩ = some (.slice A x.args.length c) ∧ w.cell? ⟨g, o + 7, none⟩ = some (.int .i64 x.ty.kind) ∧ w.cell? ⟨g, o + 8, none⟩ = some (.string x.ty.name) ∧ w.cell? ⟨g, o + 9, none⟩ = some (.int .i64 x.ty.index) ∧ w.cell? ⟨g, o + 10, none⟩ = some (.slice TA x.ty.args.length tc) ∧ w.cell? ⟨g, o + 11, none⟩ = some (.int .i64 x.ck) ∧ w.cell? ⟨g, o + 12, none⟩ = some (.int .i64 x.ci) ∧ w.cell? ⟨g, o + 13, none⟩ = some (.string x.cs) ∧ w.cell? ⟨g, o + 14, none⟩ = some (.slice EA x.ce ec))) ∧ IsInts w B x.args (.slice A x.args.length c) ∧ IsTy w 0 B x.ty (.agg #[.int .i64 x.ty.kind, .string x.ty.name, .int .i64 x.ty.index, .slice TA x.ty.args.length tc]) ∧
  IsVl w B y (.agg #[.int .i64 x.ck, .int .i64 x.ci, .string x.cs, .slice EA x.ce ec])
theorem InsAtV.ins {w : World} {B : Nat} {x : Ins} {y : Vl} {g o : Nat} (h : InsAtV w B x y g o) : InsAt w B x g o := by
  obtain ⟨A, c, TA, tc, EA, ec, h1, h2, h3, _⟩ := h
  exact ⟨A, c, TA, tc, EA, ec, h1, h2, h3⟩
theorem InsAtV.keep {w w' : World} {B g o : Nat} {x : Ins} {y : Vl} (h : InsAtV w B x y g o) (hg : g < B) (hk : ∀ b, b < B → w'.heap[b]? = w.heap[b]?) : InsAtV w' B x y g o := by
  obtain ⟨A, c, TA, tc, EA, ec, ⟨h0, h1, h2, h3, h4, h5, h6, h7, h8, h9, h10, h11, h12, h13, h14⟩, hi, ht, hv⟩ := h
  have hc : ∀ i, w'.cell? ⟨g, i, none⟩ = w.cell? ⟨g, i, none⟩ := fun i => World.cell?_of_block (w := w) (w' := w') (a := ⟨g, i, none⟩) (hk g hg)
  exact ⟨A, c, TA, tc, EA, ec, ⟨(hc _).trans h0, (hc _).trans h1, (hc _).trans h2, (hc _).trans h3, (hc _).trans h4, (hc _).trans h5, (hc _).trans h6, (hc _).trans h7, (hc _).trans h8, (hc _).trans h9, (hc _).trans h10, (hc _).trans h11, (hc _).trans h12, (hc _).trans h13, (hc _).trans h14⟩, hi.keep hk (Nat.le_refl _), ht.keep (fun b _ hb => hk b hb) (Nat.le_refl _) (Nat.le_refl _), hv.keep hk (Nat.le_refl _)⟩
def IsInsV (w : World) (B : Nat) (xs : List Ins) (v : Value) : Prop := ∃ A c, v = .slice A xs.length c ∧ xs.length ≤ c ∧ (xs.length = 0 ∨ ∃ g o, A = some ⟨g, o, none⟩ ∧ g < B ∧ ∀ (j : Nat) (hj : j < xs.length), ∃ y, InsAtV w B xs[j] y g (o + j * 15))
theorem IsInsV.below {w w' : World} {B C : Nat} {xs : List Ins} {v : Value} (h : IsInsV w B xs v) (hb : Below C w w') (hB : B ≤ C) : IsInsV w' B xs v := by
  obtain ⟨A, c, hv, hc, h⟩ := h
  refine ⟨A, c, hv, hc, ?_⟩
  rcases h with h | ⟨g, o, hA, hg, h⟩
  · exact .inl h
  · exact .inr ⟨g, o, hA, hg, fun j hj => (h j hj).elim fun y h => ⟨y, h.keep hg fun b hb' => hb.block b (by omega)⟩⟩
theorem IsInsV.insl {w : World} {B : Nat} {xs : List Ins} {v : Value} (h : IsInsV w B xs v) : IsInsl w B xs v := by
  obtain ⟨A, c, hv, hc, h⟩ := h
  refine ⟨A, c, hv, hc, ?_⟩
  rcases h with h | ⟨g, o, hA, hg, h⟩
  · exact .inl h
  · exact .inr ⟨g, o, hA, hg, fun j hj => (h j hj).elim fun _ h => h.ins⟩
theorem IsInsV.at_ {w w' : World} {B : Nat} {xs : List Ins} {A : Option Addr} {n c : Nat} (h : IsInsV w B xs (.slice A n c)) (hk : ∀ b, b < B → w'.heap[b]? = w.heap[b]?) {j : Nat} (hj : j < n) :
    ∃ g o x y, xs[j]? = some x ∧ A = some ⟨g, o, none⟩ ∧ g < B ∧ InsAtV w' B x y g (o + j * 15) := by
  obtain ⟨A', c', hv, _, h⟩ := h
  simp only [Value.slice.injEq] at hv
  obtain ⟨rfl, rfl, rfl⟩ := hv
  rcases h with h | ⟨g, o, hA, hg, h⟩
  · omega
  · obtain ⟨y, hy⟩ := h j hj
    exact ⟨g, o, xs[j], y, List.getElem?_eq_getElem hj, hA, hg, hy.keep hg hk⟩
def SmallI (x : Ins) : Prop := x.ty.size ≤ 60 ∧ x.cs.size ≤ 6100 ∧ x.args.length ≤ 20
/-- The answer of large. -/
def LrgR (r : Rc) (e : Ending) : Prop := ∃ b, e = .returned (.bool b) ∧ (b = false → r.instrs.length ≤ 150 ∧ r.classes.length ≤ 150 ∧ ∀ x ∈ r.instrs, SmallI x)
theorem lrg_t {r : Rc} {e : Ending} (h : e = .returned (.bool true)) : LrgR r e := ⟨true, h, fun h => by cases h⟩
theorem lrg_f {r : Rc} {e : Ending} (h : e = .returned (.bool false)) (h1 : r.instrs.length ≤ 150) (h2 : r.classes.length ≤ 150) (h3 : ∀ x ∈ r.instrs, SmallI x) : LrgR r e := ⟨false, h, fun _ => ⟨h1, h2, h3⟩⟩
set_option maxRecDepth 100000 in
set_option maxHeartbeats 8000000 in
theorem c_large (r : Rc) (cls : Value) (IA : Option Addr) (ic : Nat) (DA : Option Addr) (dc : Nat) (w : World) (B : Nat) (hc : IsInts w B r.classes cls) (hi : IsInsV w B r.instrs (.slice IA r.instrs.length ic)) (hB : B ≤ w.heap.size) :
    Calls Tryz.prog 17 #[.agg #[.int .i64 r.params, cls, .slice IA r.instrs.length ic, .slice DA r.edits dc]] w fun e w' => LrgR r e ∧ Below w.heap.size w w' := by
  have HB0 := Lib.hid (Bx.start w (.int .i64 r.params) cls (.slice IA r.instrs.length ic) (.slice DA r.edits dc))
  obtain ⟨CA, cc, rfl, _⟩ := hc
  have HIN := Lib.hid (fun (W : World) (hW : Below w.heap.size w W) (k : Nat) (hk : k < r.instrs.length) => hi.at_ (w' := W) (fun b hb => hW.block b (by omega)) hk)
  clear hi
  have hbz := HB0.out.2.1
  obtain ⟨c0, c1, c2, c3⟩ := HB0.out.1
  by_cases hn1 : 150 < r.instrs.length
  · have hn2 : (150 : Int) < (r.instrs.length : Int) := by omega
    clear HIN
    generalize r.instrs.length = n at *
    go_enter Tryz.func17, Tryz.ntmps17
    go_wp2
    go_ret
    exact ⟨lrg_t rfl, hbz⟩
  have hn2 : ¬ (150 : Int) < (r.instrs.length : Int) := by omega
  by_cases hm1 : 150 < r.classes.length
  · have hm2 : (150 : Int) < (r.classes.length : Int) := by omega
    clear HIN
    generalize r.instrs.length = n at *
    generalize r.classes.length = m at *
    go_enter Tryz.func17, Tryz.ntmps17
    go_wp2
    go_ret
    exact ⟨lrg_t rfl, hbz⟩
  have hm2 : ¬ (150 : Int) < (r.classes.length : Int) := by omega
  have HM := Lib.hid hm1
  generalize hn : r.instrs.length = n at *
  generalize hm : r.classes.length = m at *
  have HN := Lib.hid hn
  have HMM0 := Lib.hid hm
  clear hn hm
  go_enter Tryz.func17, Tryz.ntmps17
  go_wp2
  clear c0 c1 c2 c3
  go_loopw [3] (fun s wr => ∃ i : Nat, i ≤ n ∧ s = .int .i64 i ∧ Hid (Bx w (.int .i64 r.params) (.slice CA m cc) (.slice IA n ic) (.slice DA r.edits dc) wr) ∧ Hid (∀ x ∈ r.instrs.take i, SmallI x)) (fun s _ => n - (intOf s).toNat)
  case atStart => exact ⟨0, by omega, rfl, HB0, Lib.hid (fun x hx => by simp at hx)⟩
  case round =>
    clear HB0 hbz
    obtain ⟨i, hi, rfl, HB, HS⟩ := hrel
    obtain ⟨c0, c1, c2, c3⟩ := HB.out.1
    have hbz := HB.out.2.1
    have hi0 : (0 : Int) ≤ (i : Int) := by omega
    by_cases hin : i < n
    · have hi1 : (i : Int) < (n : Int) := by omega
      obtain ⟨g, o, x, y, hx, rfl, hg, hI⟩ := HIN.out wr hbz i hin
      obtain ⟨X1, e1, TX, tx, EX, ex, hcs, hia, hty, hvl⟩ := hI
      have HX := Lib.hid hx
      have HT := Lib.hid (c_TypeSize x.ty wr 0 B _ hty (Nat.le_trans hB hbz.size))
      obtain ⟨_, _, hve, _⟩ := hvl.args_
      simp only [Value.agg.injEq, Array.mk.injEq, List.cons.injEq, and_true, Value.string.injEq] at hve
      have HVS := Lib.hid hve.2.2.1
      have HV := Lib.hid (fun (W : World) (hW : Below wr.heap.size wr W) => c_ValueSize y W B _ (hvl.below hW (Nat.le_trans hB hbz.size)) (Nat.le_trans (Nat.le_trans hB hbz.size) hW.size))
      have hkc := hcs
      have HKC := Lib.hid hkc
      obtain ⟨h0, h1, h2, h3, h4, h5, h6, h7, h8, h9, h10, h11, h12, h13, h14⟩ := hcs
      clear hx hia hty hvl hve hkc
      go_wp2_with fail
      refine HT.out.mono ?_
      rintro e w1 ⟨⟨m1, rfl, hm11, hm12, hm13⟩, hb1⟩
      have HMM := Lib.hid hm13
      have HB1 := Lib.hid (HB.out.step hb1)
      have hbz1 := HB1.out.2.1
      clear hm13 HT h0 h1 h2 h3 h4 h5 h6 h7 h8 h9 h10 h11 h12 h13 h14 c0 c1 c2 c3
      by_cases hbig : 60 < m1
      · have hbig1 : (60 : Int) < (m1 : Int) := by omega
        clear HV HKC
        go_wp2
        go_ret
        exact ⟨lrg_t rfl, hbz1⟩
      have hbig1 : ¬ (60 : Int) < (m1 : Int) := by omega
      have HTS : Hid (x.ty.size ≤ 60) := Lib.hid (by have := HMM.out (by omega); omega)
      have HGB := Lib.hid (show g < wr.heap.size from Nat.lt_of_lt_of_le hg (Nat.le_trans hB hbz.size))
      have HK1 : Hid (∀ W : World, Below wr.heap.size wr W → (W.cell? ⟨g, o + i * 15, none⟩ = some (.int .i64 x.op) ∧ W.cell? ⟨g, o + i * 15 + 1, none⟩ = some (.int .i64 x.dst) ∧ W.cell? ⟨g, o + i * 15 + 2, none⟩ = some (.int .i64 x.a) ∧ W.cell? ⟨g, o + i * 15 + 3, none⟩ = some (.int .i64 x.b) ∧ W.cell? ⟨g, o + i * 15 + 4, none⟩ = some (.int .i64 x.imm) ∧ W.cell? ⟨g, o + i * 15 + 5, none⟩ = some (.string x.name) ∧ W.cell? ⟨g, o + i * 15 + 6, none⟩ = some (.slice X1 x.args.length e1) ∧ W.cell? ⟨g, o + i * 15 + 7, none⟩ = some (.int .i64 x.ty.kind) ∧ W.cell? ⟨g, o + i * 15 + 8, none⟩ = some (.string x.ty.name) ∧ W.cell? ⟨g, o + i * 15 + 9, none⟩ = some (.int .i64 x.ty.index) ∧ W.cell? ⟨g, o + i * 15 + 10, none⟩ = some (.slice TX x.ty.args.length tx) ∧ W.cell? ⟨g, o + i * 15 + 11, none⟩ = some (.int .i64 x.ck) ∧ W.cell? ⟨g, o + i * 15 + 12, none⟩ = some (.int .i64 x.ci) ∧ W.cell? ⟨g, o + i * 15 + 13, none⟩ = some (.string x.cs) ∧ W.cell? ⟨g, o + i * 15 + 14, none⟩ = some (.slice EX x.ce ex))) := Lib.hid (fun W hW => by
        obtain ⟨h0, h1, h2, h3, h4, h5, h6, h7, h8, h9, h10, h11, h12, h13, h14⟩ := HKC.out
        have hk : ∀ (p : Nat) (v : Value), wr.cell? ⟨g, p, none⟩ = some v → W.cell? ⟨g, p, none⟩ = some v := fun p v h => (hW.cell (p := ⟨g, p, none⟩) HGB.out).trans h
        exact ⟨hk _ _ h0, hk _ _ h1, hk _ _ h2, hk _ _ h3, hk _ _ h4, hk _ _ h5, hk _ _ h6, hk _ _ h7, hk _ _ h8, hk _ _ h9, hk _ _ h10, hk _ _ h11, hk _ _ h12, hk _ _ h13, hk _ _ h14⟩)
      clear HKC
      obtain ⟨h0, h1, h2, h3, h4, h5, h6, h7, h8, h9, h10, h11, h12, h13, h14⟩ := HK1.out w1 hb1
      obtain ⟨c0, c1, c2, c3⟩ := HB1.out.1
      go_wp2_with fail
      refine (HV.out w1 hb1).mono ?_
      rintro e w2 ⟨⟨m2, rfl, hm21, hm22⟩, hb2⟩
      have HB2 := Lib.hid (HB1.out.step hb2)
      have hbz2 := HB2.out.2.1
      have hb12 := below_step hb1 hb2
      clear HV h0 h1 h2 h3 h4 h5 h6 h7 h8 h9 h10 h11 h12 h13 h14 c0 c1 c2 c3
      by_cases hbig2 : 60 < m2
      · have hbig3 : (60 : Int) < (m2 : Int) := by omega
        go_wp2
        go_ret
        exact ⟨lrg_t rfl, hbz2⟩
      have hbig3 : ¬ (60 : Int) < (m2 : Int) := by omega
      have HCS : Hid (x.cs.size ≤ 6100) := Lib.hid (by rw [HVS.out]; omega)
      obtain ⟨h0, h1, h2, h3, h4, h5, h6, h7, h8, h9, h10, h11, h12, h13, h14⟩ := HK1.out w2 hb12
      obtain ⟨c0, c1, c2, c3⟩ := HB2.out.1
      by_cases hbig4 : 20 < x.args.length
      · have hbig5 : (20 : Int) < (x.args.length : Int) := by omega
        go_wp2
        go_ret
        exact ⟨lrg_t rfl, hbz2⟩
      · have hbig5 : ¬ (20 : Int) < (x.args.length : Int) := by omega
        have HS2 : Hid (∀ x ∈ r.instrs.take (i + 1), SmallI x) := Lib.hid (fun z hz => by
          rw [List.take_add_one, HX.out] at hz
          simp only [Option.toList_some, List.mem_append, List.mem_singleton] at hz
          rcases hz with hz | rfl
          · exact HS.out z hz
          · exact ⟨HTS.out, HCS.out, by omega⟩)
        go_wp2
        go_roundw
        case rel => exact ⟨i + 1, by omega, by go_num, HB2, HS2⟩
        case measure => simp [intOf]; omega
    · obtain rfl : n = i := by omega
      go_wp2
      go_ret
      exact ⟨lrg_f rfl (by have := HN.out; omega) (by have := HMM0.out; have := HM.out; omega) (fun x hx => HS.out x (by rw [List.take_of_length_le (by rw [HN.out]; exact Nat.le_refl _)]; exact hx)), hbz⟩
end Go.Proofs.YtdjldmpfginkdaaGreatDoor
namespace Go.Proofs.YtdjldmpfginkdaaGreatDoor
open Go.RowKit

/-- The boxes of the code that came in (at the call's own memory's end), of the made one (a) and of the spoilt one (b). -/
structure Tbx (w : World) (a b : Nat) (q0 q1 q2 q3 p c i d bi : Value) (W : World) : Prop where
  raw : Box4 W w.heap.size q0 q1 q2 q3
  r : Box4 W a p c i d
  bad : Box4 W b p c bi d
  bw : Below w.heap.size w W
  ra : w.heap.size < a
  ab : a < b
section
variable {w W W' : World} {a b : Nat} {q0 q1 q2 q3 p c i d bi v : Value}
theorem Tbx.lt (h : Tbx w a b q0 q1 q2 q3 p c i d bi W) : b < W.heap.size := h.bad.lt
theorem Tbx.step (h : Tbx w a b q0 q1 q2 q3 p c i d bi W) (hb : Below W.heap.size W W') : Tbx w a b q0 q1 q2 q3 p c i d bi W' :=
  ⟨h.raw.below hb, h.r.below hb, h.bad.below hb, below_step h.bw hb, h.ra, h.ab⟩
theorem Box4.set2 {k : Nat} {u0 u1 u2 u3 : Value} (h : Box4 W k u0 u1 u2 u3) : Box4 (W.setCell ⟨k, 2, none⟩ v) k u0 u1 v u3 := heap_setCell_same W k 2 _ _ _ h
theorem Tbx.setB (h : Tbx w a b q0 q1 q2 q3 p c i d bi W) : Tbx w a b q0 q1 q2 q3 p c i d v (W.setCell ⟨b, 2, none⟩ v) := by
  have h1 := h.ra
  have h2 := h.ab
  exact ⟨h.raw.ne (by omega) _ _, h.r.ne (by omega) _ _, h.bad.set2, below_set h.bw (by omega) _ _, h1, h2⟩
theorem Tbx.set (h : Tbx w a b q0 q1 q2 q3 p c i d bi W) {g : Nat} (hg : b < g) (j : Nat) (u : Value) : Tbx w a b q0 q1 q2 q3 p c i d bi (W.setCell ⟨g, j, none⟩ u) := by
  have h1 := h.ra
  have h2 := h.ab
  exact ⟨h.raw.ne (by omega) _ _, h.r.ne (by omega) _ _, h.bad.ne (by omega) _ _, below_set h.bw (by omega) _ _, h1, h2⟩
theorem Tbx.cells (h : Tbx w a b q0 q1 q2 q3 p c i d bi W) : (W.cell? ⟨w.heap.size, 0, none⟩ = some (q0) ∧ W.cell? ⟨w.heap.size, 1, none⟩ = some (q1) ∧ W.cell? ⟨w.heap.size, 2, none⟩ = some (q2) ∧ W.cell? ⟨w.heap.size, 3, none⟩ = some (q3)) ∧ (W.cell? ⟨a, 0, none⟩ = some (p) ∧ W.cell? ⟨a, 1, none⟩ = some (c) ∧ W.cell? ⟨a, 2, none⟩ = some (i) ∧ W.cell? ⟨a, 3, none⟩ = some (d)) ∧ (W.cell? ⟨b, 0, none⟩ = some (p) ∧ W.cell? ⟨b, 1, none⟩ = some (c) ∧ W.cell? ⟨b, 2, none⟩ = some (bi) ∧ W.cell? ⟨b, 3, none⟩ = some (d)) := ⟨h.raw.cells, h.r.cells, h.bad.cells⟩
/-- Three boxes: the one that came in, the made one, its copy. -/
theorem tbx_start {w w3 : World} (h0 : Box4 w3 w.heap.size q0 q1 q2 q3) (hb : Below w.heap.size w w3) : Tbx w w3.heap.size (w3.heap.size + 1) q0 q1 q2 q3 p c i d i ((w3.alloc (.cells #[p, c, i, d] 26)).alloc (.cells #[p, c, i, d] 26)) := by
  have hl := h0.lt
  exact ⟨blk_old (blk_old h0), blk_old (blk_eq _ _ rfl), blk_eq _ _ (by simp), below_step (below_step hb (below_new _ _)) (below_new _ _), hl, by omega⟩
end
/-- What is left when the switch is over: the spoilt code's instructions. -/
structure Spt (W : World) (g n c : Nat) (l : List Ins) : Prop where
  ins : IsInsl W W.heap.size l (.slice (some ⟨g, 0, none⟩) n c)
  len : l.length = n
  ok : ∀ x ∈ l, InsOk x
  al : ∀ x ∈ l, x.args.length ≤ 2 ^ 20
theorem InsOk.of {x y : Ins} (h : InsOk x) (h1 : y.ty = x.ty) (h2 : y.cs = x.cs) (h3 : y.args.length ≤ 2 ^ 40) : InsOk y := ⟨by rw [h1]; exact h.tok, by rw [h1]; exact h.tsz, by rw [h2]; exact h.css, h3⟩
theorem mem_set_of {α : Type} {l : List α} {k : Nat} {x' : α} {P : α → Prop} (h : ∀ x ∈ l, P x) (h' : P x') : ∀ x ∈ l.set k x', P x := fun x hx => by
  rcases List.mem_or_eq_of_mem_set hx with h1 | rfl
  · exact h x h1
  · exact h'
section
variable {W1 W : World} {base B0 g n cap k : Nat} {l : List Ins} {xs : List Value}
/-- Another number in one of the first five fields, or another name. -/
theorem spt_put (hx : Cells15 W1 B0 l xs) (ho : W1.ownsRow base 38 15 (.slice (some ⟨g, 0, none⟩) n cap) n xs) (hn : l.length = n) (hB : B0 ≤ g) (hk : k < l.length) (hok : ∀ x ∈ l, InsOk x) (hal : ∀ x ∈ l, x.args.length ≤ 2)
    (f : Nat) (u : Value) (x' : Ins) (hf : f < 6) (hty : x'.ty = l[k].ty) (hcs : x'.cs = l[k].cs) (har : x'.args = l[k].args) (hW : W = W1.setCell ⟨g, k * 15 + f, none⟩ u)
    (hput : ∀ A c TA tc EA ec, (insC l[k] A c TA tc EA ec).set f u = insC x' A c TA tc EA ec) : Spt W g n cap (l.set k x') := by
  obtain ⟨A, c, TA, tc, EA, ec, h1, h2⟩ := hx.2 k hk
  have hlt : g < W1.heap.size := (ho.lt g rfl).2
  have hsz : W.heap.size = W1.heap.size := by rw [hW]; simp [World.setCell]
  have hxm : l[k] ∈ l := List.getElem_mem hk
  have h2' : InsPt W W.heap.size l[k] A c TA tc := h2.keep (fun b hb => by rw [hW]; exact Below.heap_setCell _ _ _ _ (by show b ≠ g; omega)) (by omega)
  refine ⟨insl_put (A' := A) (c' := c) (TA' := TA) (tc' := tc) (EA' := EA) (ec' := ec) hx ho hn hB hk (by omega) hW (fun A2 c2 TA2 tc2 EA2 ec2 hc i hi => ?_) ?_, by rw [List.length_set]; exact hn, mem_set_of hok ((hok _ hxm).of hty hcs (by rw [har]; exact (hok _ hxm).alen)), mem_set_of (fun x hx => by have := hal x hx; omega) (by rw [har]; have := hal _ hxm; omega)⟩
  · have e : ∀ i, i < 15 → (insC l[k] A2 c2 TA2 tc2 EA2 ec2)[i]? = (insC l[k] A c TA tc EA ec)[i]? := fun i hi => by
      rw [← hc i hi, ← h1 i hi]
      exact ho.cellAt _ (by subst hn; omega)
    rw [← hput]
    by_cases hif : i = f
    · subst hif
      rw [List.getElem?_set_self (show i < (insC l[k] A2 c2 TA2 tc2 EA2 ec2).length from hi), List.getElem?_set_self (show i < (insC l[k] A c TA tc EA ec).length from hi)]
    · rw [List.getElem?_set_ne (fun e => hif e.symm), List.getElem?_set_ne (fun e => hif e.symm)]
      exact e i hi
  · unfold InsPt at h2' ⊢
    rw [hty, har]
    exact h2'
/-- One argument more, ahead of the others. -/
theorem spt_args (hx : Cells15 W1 B0 l xs) (ho : W1.ownsRow base 38 15 (.slice (some ⟨g, 0, none⟩) n cap) n xs) (hn : l.length = n) (hB : B0 ≤ g) (hk : k < l.length) (hok : ∀ x ∈ l, InsOk x) (hal : ∀ x ∈ l, x.args.length ≤ 2)
    (v : Int) (A' : Option Addr) (c' : Nat) (hW : W = W1.setCell ⟨g, k * 15 + 6, none⟩ (.slice A' (l[k].args.length + 1) c')) (ha : IsInts W W.heap.size (v :: l[k].args) (.slice A' (v :: l[k].args).length c')) :
    Spt W g n cap (l.set k { l[k] with args := v :: l[k].args }) := by
  obtain ⟨A, c, TA, tc, EA, ec, h1, h2⟩ := hx.2 k hk
  have hlt : g < W1.heap.size := (ho.lt g rfl).2
  have hsz : W.heap.size = W1.heap.size := by rw [hW]; simp [World.setCell]
  have hxm : l[k] ∈ l := List.getElem_mem hk
  have h2' : InsPt W W.heap.size l[k] A c TA tc := h2.keep (fun b hb => by rw [hW]; exact Below.heap_setCell _ _ _ _ (by show b ≠ g; omega)) (by omega)
  have hl2 := hal _ hxm
  refine ⟨insl_put (A' := A') (c' := c') (TA' := TA) (tc' := tc) (EA' := EA) (ec' := ec) hx ho hn hB hk (by omega) hW (fun A2 c2 TA2 tc2 EA2 ec2 hc i hi => ?_) ⟨ha, h2'.2⟩, by rw [List.length_set]; exact hn, mem_set_of hok ((hok _ hxm).of rfl rfl (by simp; omega)), mem_set_of (fun x hx => by have := hal x hx; omega) (by simp; omega)⟩
  have e : ∀ i, i < 15 → (insC l[k] A2 c2 TA2 tc2 EA2 ec2)[i]? = (insC l[k] A c TA tc EA ec)[i]? := fun i hi => by
    rw [← hc i hi, ← h1 i hi]
    exact ho.cellAt _ (by subst hn; omega)
  by_cases hif : i = 6
  · subst hif
    rw [List.getElem?_set_self (show 6 < (insC l[k] A2 c2 TA2 tc2 EA2 ec2).length from hi)]
    simp [insC]
  · rw [List.getElem?_set_ne (fun e => hif e.symm), e i hi]
    match i, hi, hif with
    | 0, _, _ | 1, _, _ | 2, _, _ | 3, _, _ | 4, _, _ | 5, _, _ | 7, _, _ | 8, _, _ | 9, _, _ | 10, _, _ | 11, _, _ | 12, _, _ | 13, _, _ | 14, _, _ => rfl
    | 6, _, h => exact absurd rfl h
end
end Go.Proofs.YtdjldmpfginkdaaGreatDoor
