/- Contracts of Validate and TermValidate at terms of any size up to 2^60. -/
import Derived.Test.YtdbflfakocaapaaDoorRefValid
import Derived.Test.YtdbflfakocaapaaDoorSize2
import Derived.Test.YtdbflfakocaapaaDoorHeld
namespace Go.Proofs.YtdbflfakocaapaaDoor
open Go.RowKit
attribute [local go_sem ↓] Go.wp_at_zero Go.wp_at_succ

set_option maxHeartbeats 1000000 in
theorem c_Validate2 (t : Ty) (w : World) (L B G : Nat) (v : Value) (hv : IsTy w L B t v) (hB : B ≤ w.heap.size) (hok : t.ok) (hM : t.size ≤ 2 ^ 60) (hE : EnvR w G) (hG : G ≤ w.heap.size) :
    Calls Tryd.prog 15 #[v] w fun e w' => e = .returned (.int .i64 t.validate) ∧ Below w.heap.size w w' := by
  by_cases hbig : 200 < t.size
  · clear hok hE hG
    have HT := Lib.hid hv
    obtain ⟨A, c, rfl, _⟩ := hv.args_
    clear hv
    have HS := Lib.hid (fun (W : World) (hW : Below w.heap.size w W) => c_Size2 t.size t W L B _ (Nat.le_refl _) (HT.out.below hW hB) (Nat.le_trans hB hW.size) hM)
    have HF := Lib.hid (Ty.validate_big1 hbig)
    generalize t.validate = r at *
    generalize t.kind = k, t.name = nm, t.index = ix, t.args.length = n at *
    generalize t.size = sz at *
    go_enter Tryd.func15, Tryd.ntmps15
    go_wp2_with fail
    refine (HS.out _ (below_new _ _)).mono ?_
    rintro e w1 ⟨rfl, hb1⟩
    go_wp2
    go_ret
    exact ⟨ret_int (by rw [HF.out]), below_step (below_new _ _) hb1⟩
  · exact c_Validate t w L B G v hv hB hok (by omega) hE hG
set_option maxHeartbeats 1000000 in
theorem c_TermValidate2 (t : Ty) (w : World) (L B : Nat) (v : Value) (hv : IsTy w L B t v) (hB : B ≤ w.heap.size) (hok : t.ok) (hM : t.size ≤ 2 ^ 60) :
    Calls Tryd.prog 16 #[v] w fun e w' => e = .returned (.int .i64 t.validate) ∧ Below w.heap.size w w' := by
  by_cases hbig : 200 < t.size
  · clear hok
    have HT := Lib.hid hv
    obtain ⟨A, c, rfl, _⟩ := hv.args_
    clear hv
    have HS := Lib.hid (fun (W : World) (hW : Below w.heap.size w W) => c_TermSize2 t.size t W L B _ (Nat.le_refl _) (HT.out.below hW hB) (Nat.le_trans hB hW.size) hM)
    have HF := Lib.hid (Ty.validate_big1 hbig)
    generalize t.validate = r at *
    generalize t.kind = k, t.name = nm, t.index = ix, t.args.length = n at *
    generalize t.size = sz at *
    go_enter Tryd.func16, Tryd.ntmps16
    go_wp2_with fail
    refine (HS.out _ (below_new _ _)).mono ?_
    rintro e w1 ⟨rfl, hb1⟩
    go_wp2
    go_ret
    exact ⟨ret_int (by rw [HF.out]), below_step (below_new _ _) hb1⟩
  · exact c_TermValidate t w L B v hv hB hok (by omega)
end Go.Proofs.YtdbflfakocaapaaDoor
