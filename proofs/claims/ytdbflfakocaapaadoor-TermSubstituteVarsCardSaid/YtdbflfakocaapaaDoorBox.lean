/- A boxed term whose arguments grow by append: what such a loop keeps. -/
import Derived.Test.YtdbflfakocaapaaDoorAcc
import Derived.Test.YtdbflfakocaapaaDoorHeld
import Derived.Test.YtdbflfakocaapaaDoorAny
namespace Go.Proofs.YtdbflfakocaapaaDoor
open Go.RowKit

/-- The variable at block tb holds a term whose arguments are the terms ts, in a row of the call's own; of what was there when the call began (the world w) only the block 'row' may have changed. -/
def BL (row : Option Nat) (tb : Nat) (w W : World) (k : Int) (nm : ByteArray) (ix : Int) (v : Value) (ts : List Ty) : Prop :=
  W.heap[tb]? = some (.cells #[.int .i64 k, .string nm, .int .i64 ix, v] 25 (0, 0)) ∧ w.grownBy W row ∧ Acc W (tb + 1) (tb + 1) ts v
theorem BL.next {row : Option Nat} {tb : Nat} {w W W5 : World} {k : Int} {nm : ByteArray} {ix : Int} {v v' : Value} {ts : List Ty} {t : Ty} (h : BL row tb w W k nm ix v ts) (hrow : ∀ s, row = some s → s < tb) (hw : w.heap.size ≤ tb)
    (hacc : Acc W5 (tb + 1) (tb + 1) (ts ++ [t]) v') (hb : ∀ b, b < W.heap.size → row ≠ some b → v.ownBlock ≠ some b → W5.heap[b]? = W.heap[b]?) (hf : W5.os = W.os ∧ W5.tape = W.tape ∧ W5.output = W.output ∧ W.heap.size ≤ W5.heap.size) :
    BL row tb w (W5.setCell ⟨tb, 3, none⟩ v') k nm ix v' (ts ++ [t]) := by
  obtain ⟨h3, h6, h7⟩ := h
  have hge := h7.own_ge
  have t5 := (hb tb (blk_lt' h3) (fun e => by have := hrow tb e; omega) (fun e => by have := hge _ e; omega)).trans h3
  have hge' := hacc.own_ge
  refine ⟨by simp [World.setCell, Array.getElem?_modify, t5], ?_, ?_⟩
  · refine ⟨hf.1.trans h6.os, hf.2.1.trans h6.tape, hf.2.2.1.trans h6.output, by have := h6.size; simp [World.setCell]; omega, fun b hb' hne => ?_⟩
    rw [Below.heap_setCell _ _ _ _ (by show b ≠ tb; omega), hb b (by have := h6.size; omega) (fun e => hne e.symm) (fun e => by have := hge _ e; omega)]
    exact h6.block b hb' hne
  · exact hacc.keep (by simp [World.setCell]) fun b hb' hh => Below.heap_setCell _ _ _ _ (by
      show b ≠ tb
      rcases hh with hh | hh
      · omega
      · have := hge' _ hh; omega)
theorem BL.isTy {row : Option Nat} {tb m : Nat} {w W : World} {k : Int} {nm : ByteArray} {ix : Int} {v : Value} {ts : List Ty} (h : BL row tb w W k nm ix v ts) (hm : m ≤ tb + 1) : IsTy W m W.heap.size ⟨k, nm, ix, ts⟩ (.agg #[.int .i64 k, .string nm, .int .i64 ix, v]) :=
  IsTy.mk_ (h.2.2.isTyl hm hm)
theorem BL.start {row : Option Nat} {tb : Nat} {w W : World} {k : Int} {nm : ByteArray} {ix : Int} (h : W.heap[tb]? = some (.cells #[.int .i64 k, .string nm, .int .i64 ix, .slice none 0 0] 25 (0, 0))) (hg : w.grownBy W row) : BL row tb w W k nm ix (.slice none 0 0) [] :=
  ⟨h, hg, Acc.nil _ _ _⟩
theorem BL.cell0 {row : Option Nat} {tb : Nat} {w W : World} {k : Int} {nm : ByteArray} {ix : Int} {v : Value} {ts : List Ty} (h : BL row tb w W k nm ix v ts) :
    W.cell? ⟨tb, 0, none⟩ = some (.int .i64 k) ∧ W.cell? ⟨tb, 1, none⟩ = some (.string nm) ∧ W.cell? ⟨tb, 2, none⟩ = some (.int .i64 ix) ∧ W.cell? ⟨tb, 3, none⟩ = some (v) :=
  ⟨by rw [cell_of_row W tb 0 _ _ _ h.1]; rfl, by rw [cell_of_row W tb 1 _ _ _ h.1]; rfl, by rw [cell_of_row W tb 2 _ _ _ h.1]; rfl, by rw [cell_of_row W tb 3 _ _ _ h.1]; rfl⟩
theorem below_of_grown0 {w w' : World} (h : w.grownBy w' none) : Below w.heap.size w w' := ⟨h.os, h.tape, h.output, h.size, fun k hk => h.block k hk (by simp)⟩
/-- A round's end, all in one: the callee has grown the world W.drew to w4, the element's row was made, appended, stored. -/
theorem BL.round {row : Option Nat} {tb : Nat} {w W w4 w5 : World} {k : Int} {nm : ByteArray} {ix : Int} {v v' : Value} {ts : List Ty} {t1 : Ty} {xs : List Value} {u0 u1 u2 u3 : Value} {L : Nat} (h : BL row tb w W k nm ix v ts) (hrow : ∀ s, row = some s → s < tb) (hw : w.heap.size ≤ tb)
    (hg4 : W.drew.grownBy w4 row) (hL : W.heap.size ≤ L) (hty : IsTy w4 L w4.heap.size t1 (.agg #[u0, u1, u2, u3]))
    (hel : ∀ (i : Nat) (hi : i < ts.length), ∃ x0 x1 x2 x3, xs[i * 4]? = some x0 ∧ xs[i * 4 + 1]? = some x1 ∧ xs[i * 4 + 2]? = some x2 ∧ xs[i * 4 + 3]? = some x3 ∧ ElemOk (w4.alloc (.cells #[u0, u1, u2, u3] 25)) (tb + 1) v.ownBlock ts[i] x0 x1 x2 x3)
    (hown4 : (w4.alloc (.cells #[u0, u1, u2, u3] 25)).ownsRow (tb + 1) 25 4 v ts.length xs)
    (hown5 : w5.ownsRow (tb + 1) 25 4 v' (ts.length + 1) (xs ++ [u0, u1, u2, u3])) (hg5 : (w4.alloc (.cells #[u0, u1, u2, u3] 25)).grownBy w5 v.ownBlock) (hat : v'.ownBlock = v.ownBlock ∨ v'.ownBlock = some (w4.alloc (.cells #[u0, u1, u2, u3] 25)).heap.size) :
    BL row tb w (w5.setCell ⟨tb, 3, none⟩ v') k nm ix v' (ts ++ [t1]) := by
  have hlt := blk_lt' h.1
  have hs4 := hg4.size
  simp at hs4
  have hlt4 := h.2.2.own_lt
  refine h.next hrow hw ?_ (fun b hb h1 h2 => ?_) ⟨hg5.os.trans hg4.os, hg5.tape.trans hg4.tape, hg5.output.trans hg4.output, by have := hg5.size; simp at this; omega⟩
  · refine Acc.push xs hel hown4.1 ⟨L, w4.heap.size, by omega, by simp, fun b hb => ?_, hty.keep (KeepIn.alloc _ (Nat.le_refl _)) (Nat.le_refl _) (Nat.le_refl _)⟩ hown5 hg5 hat
    have := hlt4 b hb
    left
    omega
  · exact (hg5.block b (by simp; omega) (fun e => h2 e.symm)).trans ((Below.heap_alloc _ _ _ (by omega)).trans (hg4.block b hb (fun e => h1 e.symm)))
theorem BL.acc4 {row : Option Nat} {tb : Nat} {w W w4 : World} {k : Int} {nm : ByteArray} {ix : Int} {v : Value} {ts : List Ty} (h : BL row tb w W k nm ix v ts) (hrow : ∀ s, row = some s → s < tb) (hg4 : W.drew.grownBy w4 row) (o : Obj) : Acc (w4.alloc o) (tb + 1) (tb + 1) ts v := by
  have hge := h.2.2.own_ge
  refine (h.2.2.keep (W' := w4) hg4.size fun b hb hh => hg4.block b hb (fun e => ?_)).below (below_new _ _)
  have := hrow b e.symm
  rcases hh with hh | hh
  · omega
  · have := hge _ hh; omega
theorem BL.box4 {row : Option Nat} {tb : Nat} {w W w4 : World} {k : Int} {nm : ByteArray} {ix : Int} {v : Value} {ts : List Ty} (h : BL row tb w W k nm ix v ts) (hrow : ∀ s, row = some s → s < tb) (hg4 : W.drew.grownBy w4 row) : w4.heap[tb]? = some (.cells #[.int .i64 k, .string nm, .int .i64 ix, v] 25 (0, 0)) :=
  (hg4.block tb (blk_lt' h.1) (fun e => by have := hrow tb e.symm; omega)).trans h.1
theorem row_none {tb : Nat} : ∀ s, (none : Option Nat) = some s → s < tb := fun _ h => by cases h
theorem set4 {W : World} {bd : Nat} {x0 x1 x2 x3 : Value} (u0 u1 u2 u3 : Value) {T : TypeId} {f : Nat × Nat} (h : W.heap[bd]? = some (.cells #[x0, x1, x2, x3] T f)) :
    ((((W.setCell ⟨bd, 0, none⟩ u0).setCell ⟨bd, 1, none⟩ u1).setCell ⟨bd, 2, none⟩ u2).setCell ⟨bd, 3, none⟩ u3).heap[bd]? = some (.cells #[u0, u1, u2, u3] T f) ∧
    (∀ b, b ≠ bd → ((((W.setCell ⟨bd, 0, none⟩ u0).setCell ⟨bd, 1, none⟩ u1).setCell ⟨bd, 2, none⟩ u2).setCell ⟨bd, 3, none⟩ u3).heap[b]? = W.heap[b]?) ∧
    ((((W.setCell ⟨bd, 0, none⟩ u0).setCell ⟨bd, 1, none⟩ u1).setCell ⟨bd, 2, none⟩ u2).setCell ⟨bd, 3, none⟩ u3).heap.size = W.heap.size := by
  refine ⟨by simp [World.setCell, Array.getElem?_modify, h], fun b hb => ?_, by simp [World.setCell]⟩
  rw [Below.heap_setCell _ _ _ _ (by exact hb), Below.heap_setCell _ _ _ _ (by exact hb), Below.heap_setCell _ _ _ _ (by exact hb), Below.heap_setCell _ _ _ _ (by exact hb)]
end Go.Proofs.YtdbflfakocaapaaDoor
