/- The walk of tellaw2.TermMeasures: it returns true. -/
import Derived.Test.YtdbflfakocaapaaDoorCons
import Derived.Test.YtdbflfakocaapaaDoorAny
import Derived.Test.YtdbflfakocaapaaDoorNames
import Derived.Test.YtdbflfakocaapaaDoorSame
import Derived.Test.YtdbflfakocaapaaDoorLawValidate
import Derived.Test.YtdbflfakocaapaaDoorHeld
import Derived.Deep.RegionHeld3
namespace Go.Proofs.YtdbflfakocaapaaDoor
open Go.RowKit
attribute [local go_sem ↓] Go.wp_at_zero Go.wp_at_succ

set_option maxHeartbeats 4000000 in
theorem c_lawTermMeasures (xs : List Int) (v : Value) (w : World) (G : Nat) (hv : IsInts w w.heap.size xs v) (hx : ∀ x ∈ xs, inI x) (hn : xs.length ≤ 2 ^ 47) (hE : EnvR w G) (hA : EnvN 0 11 w G) (hG : G ≤ w.heap.size) :
    Calls Tryd.prog 6 #[v] w fun e w' => e = .returned (.bool true) ∧ Below w.heap.size w w' := by
  have HN := Lib.hid (c_New xs v w hv hx hn)
  obtain ⟨Av, cv, rfl, _⟩ := hv
  have HE := Lib.hid hE
  have HA := Lib.hid hA
  clear hE hA hx
  generalize xs.length = nx at *
  go_enter Tryd.func6, Tryd.ntmps6
  go_wp2_with fail
  refine HN.out.mono ?_
  rintro e w1 ⟨rfl, hst1, hb1, hs1⟩
  have HST1 := Lib.hid hst1
  have HA1 : Hid (EnvN 0 11 w1 G) := Lib.hid (HA.out.keep fun b hb => hb1.block b (by omega))
  clear hst1
  go_wp2_with fail
  refine (c_AnyTerm 5 w1 w.heap.size G HST1.out HA1.out (by omega) (by omega)).mono ?_
  rintro e w2 ⟨t, u, rfl, hty, hok, hsz, _, hg2⟩
  have hs2 := hg2.size
  have hb2 : Below w.heap.size w w2 := hb1.trans (below_of_grown hg2 (Nat.le_refl _) (by omega))
  have HTY := Lib.hid hty
  obtain ⟨A, c, rfl, _⟩ := hty.args_
  have HOK := Lib.hid hok
  have hsz' : t.size ≤ 59049 := hsz
  have hdp := Ty.depth_le t
  clear hty hok hg2 hsz hb1
  have HCK : Hid (∀ W : World, Below w2.heap.size w2 W → Calls Tryd.prog 14 #[] W fun e w' => e = .returned (.bool true) ∧ Below W.heap.size W w') := Lib.hid (fun W hW => c_check W G ((HE.out.below hb2 hG).below hW (by omega)) (by have := hW.size; omega))
  have HFV : Hid (∀ W : World, Below w2.heap.size w2 W → Calls Tryd.prog 25 #[.agg #[.int .i64 t.kind, .string t.name, .int .i64 t.index, .slice A t.args.length c]] W (RetInts (insAll [] (t.fvs 0)) W)) := Lib.hid (fun W hW => c_FreeVars t W _ _ _ (HTY.out.below hW (Nat.le_refl _)) hW.size HOK.out (by omega))
  have HTF : Hid (∀ W : World, Below w2.heap.size w2 W → Calls Tryd.prog 26 #[.agg #[.int .i64 t.kind, .string t.name, .int .i64 t.index, .slice A t.args.length c]] W (RetInts (insAll [] (t.fvs 0)) W)) := Lib.hid (fun W hW => c_TermFreeVars t W _ _ _ (HTY.out.below hW (Nat.le_refl _)) hW.size HOK.out (by omega))
  have HNM : Hid (∀ W : World, Below w2.heap.size w2 W → Calls Tryd.prog 27 #[.agg #[.int .i64 t.kind, .string t.name, .int .i64 t.index, .slice A t.args.length c]] W (RetStrs (insAllS [] t.nms) W)) := Lib.hid (fun W hW => c_Names t W _ _ _ (HTY.out.below hW (Nat.le_refl _)) hW.size (by omega))
  have HTN : Hid (∀ W : World, Below w2.heap.size w2 W → Calls Tryd.prog 28 #[.agg #[.int .i64 t.kind, .string t.name, .int .i64 t.index, .slice A t.args.length c]] W (RetStrs (insAllS [] t.nms) W)) := Lib.hid (fun W hW => c_TermNames t W _ _ _ (HTY.out.below hW (Nat.le_refl _)) hW.size (by omega))
  have HSZ : Hid (∀ W : World, Below w2.heap.size w2 W → Calls Tryd.prog 29 #[.agg #[.int .i64 t.kind, .string t.name, .int .i64 t.index, .slice A t.args.length c]] W fun e w' => e = .returned (.int .i64 t.size) ∧ Below W.heap.size W w') := Lib.hid (fun W hW => c_Size t.size t W _ _ _ (Nat.le_refl _) (HTY.out.below hW (Nat.le_refl _)) hW.size (by omega))
  have HTS : Hid (∀ W : World, Below w2.heap.size w2 W → Calls Tryd.prog 21 #[.agg #[.int .i64 t.kind, .string t.name, .int .i64 t.index, .slice A t.args.length c]] W fun e w' => e = .returned (.int .i64 t.size) ∧ Below W.heap.size W w') := Lib.hid (fun W hW => c_TermSize t.size t W _ _ _ (Nat.le_refl _) (HTY.out.below hW (Nat.le_refl _)) hW.size (by omega))
  have HDP : Hid (∀ W : World, Below w2.heap.size w2 W → Calls Tryd.prog 30 #[.agg #[.int .i64 t.kind, .string t.name, .int .i64 t.index, .slice A t.args.length c]] W fun e w' => e = .returned (.int .i64 t.depth) ∧ Below W.heap.size W w') := Lib.hid (fun W hW => c_Depth t.size t W _ _ _ (Nat.le_refl _) (HTY.out.below hW (Nat.le_refl _)) hW.size (by omega))
  have HTD : Hid (∀ W : World, Below w2.heap.size w2 W → Calls Tryd.prog 24 #[.agg #[.int .i64 t.kind, .string t.name, .int .i64 t.index, .slice A t.args.length c]] W fun e w' => e = .returned (.int .i64 t.depth) ∧ Below W.heap.size W w') := Lib.hid (fun W hW => c_TermDepth t.size t W _ _ _ (Nat.le_refl _) (HTY.out.below hW (Nat.le_refl _)) hW.size (by omega))
  have HIP : Hid (∀ W : World, Below w2.heap.size w2 W → Calls Tryd.prog 33 #[.agg #[.int .i64 t.kind, .string t.name, .int .i64 t.index, .slice A t.args.length c]] W fun e w' => e = .returned (.bool t.plain) ∧ Below W.heap.size W w') := Lib.hid (fun W hW => c_IsPlain t.size t _ _ (Nat.le_refl _) HOK.out (by omega) W _ (HTY.out.below hW (Nat.le_refl _)) hW.size)
  have HTP : Hid (∀ W : World, Below w2.heap.size w2 W → Calls Tryd.prog 34 #[.agg #[.int .i64 t.kind, .string t.name, .int .i64 t.index, .slice A t.args.length c]] W fun e w' => e = .returned (.bool t.plain) ∧ Below W.heap.size W w') := Lib.hid (fun W hW => c_TermPlain t.size t W _ _ _ (Nat.le_refl _) (HTY.out.below hW (Nat.le_refl _)) hW.size HOK.out (by omega))
  have hfi : Hid ((insAll [] (t.fvs 0)).length ≤ 59049) := Lib.hid (by have := (insAll_len [] (t.fvs 0)).2; have := Ty.fvs_len t 0; simp at *; omega)
  have hfs : Hid ((insAllS [] t.nms).length ≤ 59049) := Lib.hid (by have := (insAllS_len [] t.nms).2; have := Ty.nms_len t; simp at *; omega)
  have hx0 : Hid (∀ W : World, W = w2.alloc (.cells #[.int .i64 t.kind, .string t.name, .int .i64 t.index, .slice A t.args.length c] 25) → W.cell? ⟨w2.heap.size, 0, none⟩ = some (.int .i64 t.kind) ∧ W.cell? ⟨w2.heap.size, 1, none⟩ = some (.string t.name) ∧ W.cell? ⟨w2.heap.size, 2, none⟩ = some (.int .i64 t.index) ∧ W.cell? ⟨w2.heap.size, 3, none⟩ = some (.slice A t.args.length c) ∧ Below w2.heap.size w2 W ∧ w2.heap.size < W.heap.size) := Lib.hid (fun W hW => by
    subst hW
    exact ⟨by simp, by simp, by simp, by simp, (Below.refl _ _).alloc (Nat.le_refl _) _, by simp⟩)
  generalize t.size = sz, t.depth = dp, t.plain = pl at *
  generalize t.kind = kt, t.name = nt, t.index = it, t.args.length = lt at *
  go_wp2
  generalize hW : w2.alloc _ = W
  obtain ⟨x0, x1, x2, x3, hbW, hltW⟩ := hx0.out W hW.symm
  clear hW hx0
  have SK := Lib.hid (box_sk x0 x1 x2 x3 hltW)
  clear x0 x1 x2 x3
  go_region_held3 (fun W' : World => Below W.heap.size W W' ∧ (W'.cell? ⟨w2.heap.size, 0, none⟩ = some (.int .i64 kt) ∧ W'.cell? ⟨w2.heap.size, 1, none⟩ = some (.string nt) ∧ W'.cell? ⟨w2.heap.size, 2, none⟩ = some (.int .i64 it) ∧ W'.cell? ⟨w2.heap.size, 3, none⟩ = some (.slice A lt c)))
    (first | exact SK.out _ (below_drew _) | exact SK.out _ (below_step (And.left (by assumption)) hbn))
    (first
    | (go_at_call 25; refine (HFV.out _ ?hbel).mono ?_; (case hbel => exact below_step hbW (And.left (by assumption))); rintro e w3 ⟨vi3, rfl, hv3, hb3⟩; have hbn := hb3; have HV3 := Lib.hid hv3; clear hv3)
    | (go_at_call 26; refine (HTF.out _ ?hbel).mono ?_; (case hbel => exact below_step hbW (And.left (by assumption))); rintro e w4 ⟨vi4, rfl, hv4, hb4⟩; have hbn := hb4; have HV4 := Lib.hid hv4; clear hv4))
  have hbW4 : Below W.heap.size W w4 := And.left (by assumption)
  obtain ⟨_, x0, x1, x2, x3⟩ := SK.out w4 hbW4
  have hbz4 : Below w2.heap.size w2 w4 := hbW.trans (hbW4.mono hbW.size)
  have hlt4 : w2.heap.size < w4.heap.size := Nat.lt_of_lt_of_le hltW hbW4.size
  clear SK
  have SK := Lib.hid (box_sk x0 x1 x2 x3 hlt4)
  clear x0 x1 x2 x3
  have HV3' := Lib.hid (HV3.out.below hb4 (Nat.le_refl _))
  have hs34 := hb4.size
  generalize insAll [] (t.fvs 0) = fi at *
  have HSI : Hid (∀ W : World, Below w4.heap.size w4 W → Calls Tryd.prog 31 #[vi3, vi4] W fun e w' => e = .returned (.bool true) ∧ Below W.heap.size W w') := Lib.hid (fun W hW => c_SameInts fi vi3 vi4 W _ _ (HV3'.out.below hW hs34) (HV4.out.below hW (Nat.le_refl _)) (Nat.le_trans hs34 hW.size) hW.size (Nat.le_trans hfi.out (by decide)))
  clear HV3 HV3' HV4 HFV HTF hb3 hb4
  (try clear hbn)
  go_wp2
  go_region_held3 (fun W' : World => Below w4.heap.size w4 W' ∧ (W'.cell? ⟨w2.heap.size, 0, none⟩ = some (.int .i64 kt) ∧ W'.cell? ⟨w2.heap.size, 1, none⟩ = some (.string nt) ∧ W'.cell? ⟨w2.heap.size, 2, none⟩ = some (.int .i64 it) ∧ W'.cell? ⟨w2.heap.size, 3, none⟩ = some (.slice A lt c)))
    (first | exact SK.out _ (below_drew _) | exact SK.out _ (below_step (And.left (by assumption)) hbn))
    (first
    | (go_at_call 27; refine (HNM.out _ ?hbel).mono ?_; (case hbel => exact below_step hbz4 (And.left (by assumption))); rintro e w5 ⟨vi5, rfl, hv5, hb5⟩; have hbn := hb5; have HV5 := Lib.hid hv5; clear hv5)
    | (go_at_call 28; refine (HTN.out _ ?hbel).mono ?_; (case hbel => exact below_step hbz4 (And.left (by assumption))); rintro e w6 ⟨vi6, rfl, hv6, hb6⟩; have hbn := hb6; have HV6 := Lib.hid hv6; clear hv6))
  have hbW6 : Below w4.heap.size w4 w6 := And.left (by assumption)
  obtain ⟨_, x0, x1, x2, x3⟩ := SK.out w6 hbW6
  have hbz6 : Below w2.heap.size w2 w6 := hbz4.trans (hbW6.mono hbz4.size)
  have hlt6 : w2.heap.size < w6.heap.size := Nat.lt_of_lt_of_le hlt4 hbW6.size
  clear SK
  have SK := Lib.hid (box_sk x0 x1 x2 x3 hlt6)
  clear x0 x1 x2 x3
  have HV5' := Lib.hid (HV5.out.below hb6 (Nat.le_refl _))
  have hs56 := hb6.size
  generalize insAllS [] t.nms = fs at *
  have HSS : Hid (∀ W : World, Below w6.heap.size w6 W → Calls Tryd.prog 32 #[vi5, vi6] W fun e w' => e = .returned (.bool true) ∧ Below W.heap.size W w') := Lib.hid (fun W hW => c_SameStrings fs vi5 vi6 W _ _ (HV5'.out.below hW hs56) (HV6.out.below hW (Nat.le_refl _)) (Nat.le_trans hs56 hW.size) hW.size (Nat.le_trans hfs.out (by decide)))
  have HSI' : Hid (∀ W : World, Below w6.heap.size w6 W → Calls Tryd.prog 31 #[vi3, vi4] W fun e w' => e = .returned (.bool true) ∧ Below W.heap.size W w') := Lib.hid (fun W hW => HSI.out W (hbW6.trans (hW.mono hbW6.size)))
  clear HV5 HV5' HV6 HNM HTN hb5 hb6 HSI
  (try clear hbn)
  go_wp2
  go_region_held3 (fun W' : World => Below w6.heap.size w6 W' ∧ (W'.cell? ⟨w2.heap.size, 0, none⟩ = some (.int .i64 kt) ∧ W'.cell? ⟨w2.heap.size, 1, none⟩ = some (.string nt) ∧ W'.cell? ⟨w2.heap.size, 2, none⟩ = some (.int .i64 it) ∧ W'.cell? ⟨w2.heap.size, 3, none⟩ = some (.slice A lt c)))
    (first | exact SK.out _ (below_drew _) | exact SK.out _ (below_step (And.left (by assumption)) hbn))
    (first
    | (go_at_call 14; refine (HCK.out _ ?hbel).mono ?_; (case hbel => exact below_step hbz6 (And.left (by assumption))); rintro e w7 ⟨rfl, hb7⟩; have hbn := hb7)
    | (go_at_call 29; refine (HSZ.out _ ?hbel).mono ?_; (case hbel => exact below_step hbz6 (And.left (by assumption))); rintro e w8 ⟨rfl, hb8⟩; have hbn := hb8)
    | (go_at_call 21; refine (HTS.out _ ?hbel).mono ?_; (case hbel => exact below_step hbz6 (And.left (by assumption))); rintro e w9 ⟨rfl, hb9⟩; have hbn := hb9)
    | (go_at_call 30; refine (HDP.out _ ?hbel).mono ?_; (case hbel => exact below_step hbz6 (And.left (by assumption))); rintro e w10 ⟨rfl, hb10⟩; have hbn := hb10)
    | (go_at_call 24; refine (HTD.out _ ?hbel).mono ?_; (case hbel => exact below_step hbz6 (And.left (by assumption))); rintro e w11 ⟨rfl, hb11⟩; have hbn := hb11)
    | (go_at_call 31; refine (HSI'.out _ ?hbel).mono ?_; (case hbel => exact And.left (by assumption)); rintro e w12 ⟨rfl, hb12⟩; have hbn := hb12)
    | (go_at_call 32; refine (HSS.out _ ?hbel).mono ?_; (case hbel => exact And.left (by assumption)); rintro e w13 ⟨rfl, hb13⟩; have hbn := hb13)
    | (go_at_call 33; refine (HIP.out _ ?hbel).mono ?_; (case hbel => exact below_step hbz6 (And.left (by assumption))); rintro e w14 ⟨rfl, hb14⟩; have hbn := hb14)
    | (go_at_call 34; refine (HTP.out _ ?hbel).mono ?_; (case hbel => exact below_step hbz6 (And.left (by assumption))); rintro e w15 ⟨rfl, hb15⟩; have hbn := hb15))
  have hbW15 : Below w6.heap.size w6 w15 := And.left (by assumption)
  go_wp2
  go_ret
  exact ⟨rfl, hb2.trans ((hbz6.trans (hbW15.mono hbz6.size)).mono (by omega))⟩
end Go.Proofs.YtdbflfakocaapaaDoor
