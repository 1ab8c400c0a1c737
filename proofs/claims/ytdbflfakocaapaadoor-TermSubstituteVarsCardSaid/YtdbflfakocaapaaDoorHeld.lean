/- Plain: what a world keeps of the cells of a boxed term. -/
import Derived.Test.YtdbflfakocaapaaDoorTy
namespace Go.Proofs.YtdbflfakocaapaaDoor
open Go.RowKit

theorem below_step {wr Wc w' : World} (h : Below wr.heap.size wr Wc) (hb : Below Wc.heap.size Wc w') : Below wr.heap.size wr w' := h.trans (hb.mono h.size)
theorem below_drew (w : World) : Below w.heap.size w w.drew := (Below.refl _ _).drew
theorem below_new (w : World) (o : Obj) : Below w.heap.size w (w.alloc o) := (Below.refl _ _).alloc (Nat.le_refl _) _
theorem box_sk {wr : World} {b : Nat} {u0 u1 u2 u3 : Value} (h0 : wr.cell? ⟨b, 0, none⟩ = some u0) (h1 : wr.cell? ⟨b, 1, none⟩ = some u1) (h2 : wr.cell? ⟨b, 2, none⟩ = some u2) (h3 : wr.cell? ⟨b, 3, none⟩ = some u3) (hl : b < wr.heap.size) :
    ∀ W : World, Below wr.heap.size wr W → Below wr.heap.size wr W ∧ W.cell? ⟨b, 0, none⟩ = some (u0) ∧ W.cell? ⟨b, 1, none⟩ = some (u1) ∧ W.cell? ⟨b, 2, none⟩ = some (u2) ∧ W.cell? ⟨b, 3, none⟩ = some (u3) := fun _ hb =>
  ⟨hb, (hb.cell (p := ⟨b, 0, none⟩) hl).trans h0, (hb.cell (p := ⟨b, 1, none⟩) hl).trans h1, (hb.cell (p := ⟨b, 2, none⟩) hl).trans h2, (hb.cell (p := ⟨b, 3, none⟩) hl).trans h3⟩
theorem box_sk2 {wr : World} {b d : Nat} {u0 u1 u2 u3 v0 v1 v2 v3 : Value} (h : wr.cell? ⟨b, 0, none⟩ = some (u0) ∧ wr.cell? ⟨b, 1, none⟩ = some (u1) ∧ wr.cell? ⟨b, 2, none⟩ = some (u2) ∧ wr.cell? ⟨b, 3, none⟩ = some (u3)) (k : wr.cell? ⟨d, 0, none⟩ = some (v0) ∧ wr.cell? ⟨d, 1, none⟩ = some (v1) ∧ wr.cell? ⟨d, 2, none⟩ = some (v2) ∧ wr.cell? ⟨d, 3, none⟩ = some (v3)) (hl : b < wr.heap.size) (hd : d < wr.heap.size) :
    ∀ W : World, Below wr.heap.size wr W → Below wr.heap.size wr W ∧ (W.cell? ⟨b, 0, none⟩ = some (u0) ∧ W.cell? ⟨b, 1, none⟩ = some (u1) ∧ W.cell? ⟨b, 2, none⟩ = some (u2) ∧ W.cell? ⟨b, 3, none⟩ = some (u3)) ∧ W.cell? ⟨d, 0, none⟩ = some (v0) ∧ W.cell? ⟨d, 1, none⟩ = some (v1) ∧ W.cell? ⟨d, 2, none⟩ = some (v2) ∧ W.cell? ⟨d, 3, none⟩ = some (v3) := fun W hb =>
  ⟨hb, (box_sk h.1 h.2.1 h.2.2.1 h.2.2.2 hl W hb).2, (box_sk k.1 k.2.1 k.2.2.1 k.2.2.2 hd W hb).2⟩
theorem box_alloc (w : World) (u0 u1 u2 u3 : Value) (T : TypeId) : ((w.alloc (.cells #[u0, u1, u2, u3] T)).cell? ⟨w.heap.size, 0, none⟩ = some (u0) ∧ (w.alloc (.cells #[u0, u1, u2, u3] T)).cell? ⟨w.heap.size, 1, none⟩ = some (u1) ∧ (w.alloc (.cells #[u0, u1, u2, u3] T)).cell? ⟨w.heap.size, 2, none⟩ = some (u2) ∧ (w.alloc (.cells #[u0, u1, u2, u3] T)).cell? ⟨w.heap.size, 3, none⟩ = some (u3)) := by
  refine ⟨?_, ?_, ?_, ?_⟩ <;> simp
theorem box_alloc2 (w : World) (u0 u1 u2 u3 v0 v1 v2 v3 : Value) (T : TypeId) : (((w.alloc (.cells #[u0, u1, u2, u3] T)).alloc (.cells #[v0, v1, v2, v3] T)).cell? ⟨w.heap.size, 0, none⟩ = some (u0) ∧ ((w.alloc (.cells #[u0, u1, u2, u3] T)).alloc (.cells #[v0, v1, v2, v3] T)).cell? ⟨w.heap.size, 1, none⟩ = some (u1) ∧ ((w.alloc (.cells #[u0, u1, u2, u3] T)).alloc (.cells #[v0, v1, v2, v3] T)).cell? ⟨w.heap.size, 2, none⟩ = some (u2) ∧ ((w.alloc (.cells #[u0, u1, u2, u3] T)).alloc (.cells #[v0, v1, v2, v3] T)).cell? ⟨w.heap.size, 3, none⟩ = some (u3)) ∧ (((w.alloc (.cells #[u0, u1, u2, u3] T)).alloc (.cells #[v0, v1, v2, v3] T)).cell? ⟨w.heap.size + 1, 0, none⟩ = some (v0) ∧ ((w.alloc (.cells #[u0, u1, u2, u3] T)).alloc (.cells #[v0, v1, v2, v3] T)).cell? ⟨w.heap.size + 1, 1, none⟩ = some (v1) ∧ ((w.alloc (.cells #[u0, u1, u2, u3] T)).alloc (.cells #[v0, v1, v2, v3] T)).cell? ⟨w.heap.size + 1, 2, none⟩ = some (v2) ∧ ((w.alloc (.cells #[u0, u1, u2, u3] T)).alloc (.cells #[v0, v1, v2, v3] T)).cell? ⟨w.heap.size + 1, 3, none⟩ = some (v3)) := by
  refine ⟨⟨?_, ?_, ?_, ?_⟩, ?_, ?_, ?_, ?_⟩ <;> simp
end Go.Proofs.YtdbflfakocaapaaDoor
