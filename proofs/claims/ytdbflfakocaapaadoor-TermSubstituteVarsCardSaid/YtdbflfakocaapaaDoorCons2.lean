/- Contracts of the constructors Tuple, UnionTerm, Never. -/
import Derived.Test.YtdbflfakocaapaaDoorCons
namespace Go.Proofs.YtdbflfakocaapaaDoor
open Go.RowKit

set_option maxHeartbeats 400000 in
theorem c_Never (L : Nat) (w : World) : Calls Tryd.prog 45 #[] w (RetTy L tNever w) := by
  go_enter Tryd.func45, Tryd.ntmps45
  go_wp2
  go_returns
  exact ⟨none, 0, rfl, IsTy.mk_ (IsTyl.nil none 0), (Below.refl _ _).alloc (Nat.le_refl _) _⟩
set_option maxHeartbeats 400000 in
theorem c_Tuple (L : Nat) (ts : List Ty) (v : Value) (w : World) (hv : IsTyl w L w.heap.size ts v) : Calls Tryd.prog 41 #[v] w (RetTy L (tTuple ts) w) := by
  have HV := Lib.hid hv
  obtain ⟨A, c, rfl, _⟩ := hv
  go_enter Tryd.func41, Tryd.ntmps41
  go_wp2
  go_returns
  exact ⟨A, c, rfl, IsTy.mk_ (HV.out.keep (KeepIn.alloc _ (Nat.le_refl _)) (Nat.le_refl _) (by simp)), (Below.refl _ _).alloc (Nat.le_refl _) _⟩
set_option maxHeartbeats 400000 in
theorem c_UnionTerm (L : Nat) (ts : List Ty) (v : Value) (w : World) (hv : IsTyl w L w.heap.size ts v) : Calls Tryd.prog 44 #[v] w (RetTy L (tUnion ts) w) := by
  have HV := Lib.hid hv
  obtain ⟨A, c, rfl, _⟩ := hv
  go_enter Tryd.func44, Tryd.ntmps44
  go_wp2
  go_returns
  exact ⟨A, c, rfl, IsTy.mk_ (HV.out.keep (KeepIn.alloc _ (Nat.le_refl _)) (Nat.le_refl _) (by simp)), (Below.refl _ _).alloc (Nat.le_refl _) _⟩
theorem IsTyl.three {w : World} {L B g : Nat} {a b d : Ty} {x0 x1 x2 x3 y0 y1 y2 y3 z0 z1 z2 z3 : Value} {t : TypeId} {f : Nat × Nat} (hb : w.heap[g]? = some (.cells #[x0, x1, x2, x3, y0, y1, y2, y3, z0, z1, z2, z3] t f)) (hL : L ≤ g) (hB : g < B) (ha : IsTy w L B a (.agg #[x0, x1, x2, x3])) (hbb : IsTy w L B b (.agg #[y0, y1, y2, y3])) (hd : IsTy w L B d (.agg #[z0, z1, z2, z3])) (c : Nat) (hc : 3 ≤ c := by decide) :
    IsTyl w L B [a, b, d] (.slice (some ⟨g, 0, none⟩) 3 c) := by
  refine ⟨_, c, rfl, hc, .inr ⟨g, 0, rfl, hL, hB, ?_⟩⟩
  unfold IsTys
  refine ⟨⟨x0, x1, x2, x3, ?_, ?_, ?_, ?_, ha⟩, ?_⟩
  · rw [cell_of_row w g _ _ _ _ hb]; rfl
  · rw [cell_of_row w g _ _ _ _ hb]; rfl
  · rw [cell_of_row w g _ _ _ _ hb]; rfl
  · rw [cell_of_row w g _ _ _ _ hb]; rfl
  · unfold IsTys
    refine ⟨⟨y0, y1, y2, y3, ?_, ?_, ?_, ?_, hbb⟩, ?_⟩
    · rw [cell_of_row w g _ _ _ _ hb]; rfl
    · rw [cell_of_row w g _ _ _ _ hb]; rfl
    · rw [cell_of_row w g _ _ _ _ hb]; rfl
    · rw [cell_of_row w g _ _ _ _ hb]; rfl
    · unfold IsTys
      refine ⟨⟨z0, z1, z2, z3, ?_, ?_, ?_, ?_, hd⟩, by unfold IsTys; trivial⟩
      · rw [cell_of_row w g _ _ _ _ hb]; rfl
      · rw [cell_of_row w g _ _ _ _ hb]; rfl
      · rw [cell_of_row w g _ _ _ _ hb]; rfl
      · rw [cell_of_row w g _ _ _ _ hb]; rfl
end Go.Proofs.YtdbflfakocaapaaDoor
