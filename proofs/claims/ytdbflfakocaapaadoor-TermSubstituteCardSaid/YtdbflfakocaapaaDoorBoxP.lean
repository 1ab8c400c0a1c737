/- A boxed term whose arguments grow by append and may share memory with older terms. -/
import Derived.Test.YtdbflfakocaapaaDoorTyP
namespace Go.Proofs.YtdbflfakocaapaaDoor
open Go.RowKit

/-- The variable at block tb holds a term whose arguments are the terms ts, in a row of the call's own; their memory lies in the blocks P or in new ones. -/
def BP (P : Nat → Prop) (tb : Nat) (w W : World) (k : Int) (nm : ByteArray) (ix : Int) (v : Value) (ts : List Ty) : Prop :=
  W.heap[tb]? = some (.cells #[.int .i64 k, .string nm, .int .i64 ix, v] 25 (0, 0)) ∧ Below w.heap.size w W ∧ AccP W P (tb + 1) ts v
theorem BP.start {P : Nat → Prop} {tb : Nat} {w W : World} {k : Int} {nm : ByteArray} {ix : Int} (h : W.heap[tb]? = some (.cells #[.int .i64 k, .string nm, .int .i64 ix, .slice none 0 0] 25 (0, 0))) (hg : Below w.heap.size w W) : BP P tb w W k nm ix (.slice none 0 0) [] :=
  ⟨h, hg, AccP.nil _ _ _⟩
theorem BP.cell0 {P : Nat → Prop} {tb : Nat} {w W : World} {k : Int} {nm : ByteArray} {ix : Int} {v : Value} {ts : List Ty} (h : BP P tb w W k nm ix v ts) :
    W.cell? ⟨tb, 0, none⟩ = some (.int .i64 k) ∧ W.cell? ⟨tb, 1, none⟩ = some (.string nm) ∧ W.cell? ⟨tb, 2, none⟩ = some (.int .i64 ix) ∧ W.cell? ⟨tb, 3, none⟩ = some (v) := (box_frozen h.1).1
theorem BP.acc4 {P : Nat → Prop} {tb : Nat} {w W w4 : World} {k : Int} {nm : ByteArray} {ix : Int} {v : Value} {ts : List Ty} (h : BP P tb w W k nm ix v ts) (hP : ∀ b, P b → b < tb) (hb4 : Below W.heap.size W w4) (o : Obj) : AccP (w4.alloc o) P (tb + 1) ts v := by
  have hlt := blk_lt' h.1
  exact h.2.2.below (fun b hb => by have := hP b hb; omega) (fun b hb => (Below.heap_alloc _ _ _ (by have := hb4.size; omega)).trans (hb4.block b hb)) (by have := hb4.size; simp; omega)
theorem BP.alloc {P : Nat → Prop} {tb : Nat} {w W : World} {k : Int} {nm : ByteArray} {ix : Int} {v : Value} {ts : List Ty} (h : BP P tb w W k nm ix v ts) (hP : ∀ b, P b → b < tb) {W' : World} (hb : Below W.heap.size W W') : BP P tb w W' k nm ix v ts :=
  ⟨(hb.block tb (blk_lt' h.1)).trans h.1, h.2.1.trans (hb.mono h.2.1.size), h.2.2.below (fun b hp => by have := hP b hp; have := blk_lt' h.1; omega) (fun b hb' => hb.block b hb') hb.size⟩
theorem BP.round {P : Nat → Prop} {tb : Nat} {w W w4 w5 : World} {k : Int} {nm : ByteArray} {ix : Int} {v v' : Value} {ts : List Ty} {t1 : Ty} {xs : List Value} {u0 u1 u2 u3 : Value} (h : BP P tb w W k nm ix v ts) (hP : ∀ b, P b → b < tb) (hw : w.heap.size ≤ tb)
    (hb4 : Below W.heap.size W w4) (hty : IsTyP w4 (fun b => P b ∨ (W.heap.size ≤ b ∧ b < w4.heap.size)) t1 (.agg #[u0, u1, u2, u3]))
    (hel : ∀ (i : Nat) (hi : i < ts.length), ∃ x0 x1 x2 x3, xs[i * 4]? = some x0 ∧ xs[i * 4 + 1]? = some x1 ∧ xs[i * 4 + 2]? = some x2 ∧ xs[i * 4 + 3]? = some x3 ∧ ElemP (w4.alloc (.cells #[u0, u1, u2, u3] 25)) P (tb + 1) v.ownBlock ts[i] x0 x1 x2 x3)
    (hown4 : (w4.alloc (.cells #[u0, u1, u2, u3] 25)).ownsRow (tb + 1) 25 4 v ts.length xs)
    (hown5 : w5.ownsRow (tb + 1) 25 4 v' (ts.length + 1) (xs ++ [u0, u1, u2, u3])) (hg5 : (w4.alloc (.cells #[u0, u1, u2, u3] 25)).grownBy w5 v.ownBlock) (hat : v'.ownBlock = v.ownBlock ∨ v'.ownBlock = some (w4.alloc (.cells #[u0, u1, u2, u3] 25)).heap.size) :
    BP P tb w (w5.setCell ⟨tb, 3, none⟩ v') k nm ix v' (ts ++ [t1]) := by
  have hlt := blk_lt' h.1
  have hs4 := hb4.size
  have hge := h.2.2.own_ge
  have hltw := h.2.2.own_lt
  have hs5 := hg5.size
  simp at hs5
  have hP' : ∀ b, P b → b < (w4.alloc (.cells #[u0, u1, u2, u3] 25)).heap.size := fun b hb => by have := hP b hb; simp; omega
  have hacc : AccP w5 P (tb + 1) (ts ++ [t1]) v' := by
    refine AccP.push xs (fun b hb => by have := hP b hb; omega) (by simp; omega) hge hel hown4.1 ?_ hown5 hg5 hat
    refine IsTyP.keep (fun b hp => ?_) (fun b hp => ?_) hty
    · rcases hp with hp | hp
      · exact Below.heap_alloc _ _ _ (by have := hP b hp; omega)
      · exact Below.heap_alloc _ _ _ hp.2
    · rcases hp with hp | ⟨h1, h2⟩
      · exact .inl hp
      · exact .inr ⟨by omega, by simp; omega, fun e => by have := hltw b e; omega⟩
  have hblk : ∀ b, b < W.heap.size → v.ownBlock ≠ some b → w5.heap[b]? = W.heap[b]? := fun b hb h2 =>
    (hg5.block b (by simp; omega) (fun e => h2 e.symm)).trans ((Below.heap_alloc _ _ _ (by omega)).trans (hb4.block b hb))
  have t5 := (hblk tb hlt (fun e => by have := hge _ e; omega)).trans h.1
  refine ⟨by simp [World.setCell, Array.getElem?_modify, t5], ?_, ?_⟩
  · have h6 := h.2.1
    refine ⟨(hg5.os.trans hb4.os).trans h6.os, (hg5.tape.trans hb4.tape).trans h6.tape, (hg5.output.trans hb4.output).trans h6.output, by have := h6.size; simp [World.setCell]; omega, fun b hb' => ?_⟩
    rw [Below.heap_setCell _ _ _ _ (by show b ≠ tb; omega), hblk b (by have := h6.size; omega) (fun e => by have := hge _ e; omega)]
    exact h6.block b hb'
  · have hge' := hacc.own_ge
    have hlt' := hacc.own_lt
    obtain ⟨xs', hown', hel'⟩ := hacc
    refine ⟨xs', ⟨hown'.1, ?_⟩, fun i hi => ?_⟩
    · rcases hown'.2 with h1 | ⟨g, cap, cur, hv, hg, hh, r⟩
      · exact .inl h1
      · exact .inr ⟨g, cap, cur, hv, hg, (Below.heap_setCell _ _ _ _ (by show g ≠ tb; omega)).trans hh, r⟩
    · obtain ⟨x0, x1, x2, x3, e0, e1, e2, e3, ht⟩ := hel' i hi
      refine ⟨x0, x1, x2, x3, e0, e1, e2, e3, IsTyP.keep (fun b hp => Below.heap_setCell _ _ _ _ ?_) (fun b hp => ?_) ht⟩
      · show b ≠ tb
        rcases hp with hp | hp
        · have := hP b hp; omega
        · omega
      · rcases hp with hp | hp
        · exact .inl hp
        · exact .inr ⟨hp.1, by simp [World.setCell]; exact hp.2.1, hp.2.2⟩
end Go.Proofs.YtdbflfakocaapaaDoor
