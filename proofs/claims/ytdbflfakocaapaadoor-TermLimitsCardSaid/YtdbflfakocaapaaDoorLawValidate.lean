/- The walk of tellaw2.TermValidate: it returns true. -/
import Derived.Test.YtdbflfakocaapaaDoorCons
import Derived.Test.YtdbflfakocaapaaDoorAny
namespace Go.Proofs.YtdbflfakocaapaaDoor
open Go.RowKit
attribute [local go_sem ↓] Go.wp_at_zero Go.wp_at_succ

theorem below_of_grown {w w' : World} {sb B : Nat} (h : w.grownBy w' (some sb)) (h1 : B ≤ sb) (h2 : B ≤ w.heap.size) : Below B w w' :=
  ⟨h.os, h.tape, h.output, h.size, fun k hk => h.block k (by omega) (by intro e; injection e with e; omega)⟩

set_option maxHeartbeats 2000000 in
theorem c_lawTermValidate (xs : List Int) (v : Value) (w : World) (G : Nat) (hv : IsInts w w.heap.size xs v) (hx : ∀ x ∈ xs, inI x) (hn : xs.length ≤ 2 ^ 47) (hE : EnvR w G) (hA : EnvN 0 11 w G) (hG : G ≤ w.heap.size) :
    Calls Tryd.prog 3 #[v] w fun e w' => e = .returned (.bool true) ∧ Below w.heap.size w w' := by
  have HN := Lib.hid (c_New xs v w hv hx hn)
  obtain ⟨Av, cv, rfl, _⟩ := hv
  have HE := Lib.hid hE
  have HA := Lib.hid hA
  clear hE hA hx
  generalize xs.length = nx at *
  go_enter Tryd.func3, Tryd.ntmps3
  go_wp2_with fail
  refine HN.out.mono ?_
  rintro e w1 ⟨rfl, hst1, hb1, hs1⟩
  have HST1 := Lib.hid hst1
  have HA1 : Hid (EnvN 0 11 w1 G) := Lib.hid (HA.out.keep fun b hb => hb1.block b (by omega))
  clear hst1
  go_wp2_with fail
  refine (c_AnyTerm 5 w1 w.heap.size G HST1.out HA1.out (by omega) (by omega)).mono ?_
  rintro e w2 ⟨t, u, rfl, hty, hok, hsz, _, hg2⟩
  have hs2 := hg2.size
  have hb2 : Below w.heap.size w w2 := hb1.trans (below_of_grown hg2 (Nat.le_refl _) (by omega))
  have HTY := Lib.hid hty
  obtain ⟨A, c, rfl, _⟩ := hty.args_
  have HOK := Lib.hid hok
  have hsz' : t.size ≤ 59049 := hsz
  clear hty hok hg2 hsz hb1
  have HCK : Hid (∀ W : World, Below w2.heap.size w2 W → Calls Tryd.prog 14 #[] W fun e w' => e = .returned (.bool true) ∧ Below W.heap.size W w') := Lib.hid (fun W hW => c_check W G ((HE.out.below hb2 hG).below hW (by omega)) (by have := hW.size; omega))
  have HVA : Hid (∀ W : World, Below w2.heap.size w2 W → Calls Tryd.prog 15 #[.agg #[.int .i64 t.kind, .string t.name, .int .i64 t.index, .slice A t.args.length c]] W fun e w' => e = .returned (.int .i64 t.validate) ∧ Below W.heap.size W w') := Lib.hid (fun W hW => c_Validate t W _ _ G _ (HTY.out.below hW (Nat.le_refl _)) hW.size HOK.out (by omega) ((HE.out.below hb2 hG).below hW (by omega)) (by have := hW.size; omega))
  have HTV : Hid (∀ W : World, Below w2.heap.size w2 W → Calls Tryd.prog 16 #[.agg #[.int .i64 t.kind, .string t.name, .int .i64 t.index, .slice A t.args.length c]] W fun e w' => e = .returned (.int .i64 t.validate) ∧ Below W.heap.size W w') := Lib.hid (fun W hW => c_TermValidate t W _ _ _ (HTY.out.below hW (Nat.le_refl _)) hW.size HOK.out (by omega))
  have hx0 : Hid (∀ W : World, W = w2.alloc (.cells #[.int .i64 t.kind, .string t.name, .int .i64 t.index, .slice A t.args.length c] 25) → W.cell? ⟨w2.heap.size, 0, none⟩ = some (.int .i64 t.kind) ∧ W.cell? ⟨w2.heap.size, 1, none⟩ = some (.string t.name) ∧ W.cell? ⟨w2.heap.size, 2, none⟩ = some (.int .i64 t.index) ∧ W.cell? ⟨w2.heap.size, 3, none⟩ = some (.slice A t.args.length c) ∧ Below w2.heap.size w2 W ∧ w2.heap.size < W.heap.size) := Lib.hid (fun W hW => by
    subst hW
    exact ⟨by simp, by simp, by simp, by simp, (Below.refl _ _).alloc (Nat.le_refl _) _, by simp⟩)
  generalize t.validate = r at *
  generalize t.kind = kt, t.name = nt, t.index = it, t.args.length = lt at *
  go_wp2
  generalize hW : w2.alloc _ = W
  obtain ⟨x0, x1, x2, x3, hbW, hltW⟩ := hx0.out W hW.symm
  clear hW hx0
  go_region_with (first
    | (go_at_call 14; refine (HCK.out _ (hbW.drew)).mono ?_; rintro e w3 ⟨rfl, hb3⟩
       have hs3 := hb3.size
       have hc3 := fun (i : Nat) => hb3.cell (p := ⟨w2.heap.size, i, none⟩) (by exact hltW)
       have y0 := (hc3 0).trans x0
       have y1 := (hc3 1).trans x1
       have y2 := (hc3 2).trans x2
       have y3 := (hc3 3).trans x3
       have hbz3 : Below w2.heap.size w2 w3 := hbW.drew.trans (hb3.mono (by simp; omega))
       clear hc3)
    | (go_at_call 15; refine (HVA.out _ hbz3).mono ?_; rintro e w4 ⟨rfl, hb4⟩
       have hs4 := hb4.size
       have hc4 := fun (i : Nat) => hb4.cell (p := ⟨w2.heap.size, i, none⟩) (by show w2.heap.size < _; simp at hs3; omega)
       have z0 := (hc4 0).trans y0
       have z1 := (hc4 1).trans y1
       have z2 := (hc4 2).trans y2
       have z3 := (hc4 3).trans y3
       have hbz4 : Below w2.heap.size w2 w4 := hbz3.trans (hb4.mono (by simp at hs3; omega))
       clear hc4)
    | (go_at_call 16; refine (HTV.out _ hbz4).mono ?_; rintro e w5 ⟨rfl, hb5⟩))
  all_goals
    go_wp2
    go_ret
    exact ⟨rfl, hb2.trans ((hbz4.trans (hb5.mono (by have := hbz4.size; omega))).mono (by omega))⟩
end Go.Proofs.YtdbflfakocaapaaDoor
