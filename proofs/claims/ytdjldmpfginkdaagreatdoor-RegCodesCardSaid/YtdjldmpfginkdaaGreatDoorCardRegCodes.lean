/- 'telpher/tellaw27.RegCodes' returns true at every input and leaves it as it was; the listed package variables start as the program's text lays them. -/
import Derived.Test.YtdjldmpfginkdaaGreatDoorCards
import Derived.Test.YtdjldmpfginkdaaGreatDoorTie
import Derived.Test.YtdjldmpfginkdaaGreatDoorGEnv
import Derived.Test.YtdjldmpfginkdaaGreatDoorLawCodes
import Derived.WalkKit
import Derived.ProofKit
import Derived.OpenShut
import Derived.ChangeMaps5
import Derived.Lay
import Derived.MakeChecks
import Derived.Deep.DeepHandedRow
import Derived.Deep.DeepWitnessRowRef
import Derived.Test.YtdjldmpfginkdaaGreatDoorEnvS
import Derived.Test.YtdjldmpfginkdaaGreatDoorArgCode
namespace Go.Proofs.YtdjldmpfginkdaaGreatDoor.regCodes
open Go.ChangeShapes Go.WideShapes Go.ChangeAt Go.RowKit

set_option maxRecDepth 100000 in
theorem contract (H : Type) (enc : TypeId × Value → H) (W : World) (base : Nat) (args : Array Value) (ds gs : List (DataW H)) (before : List MemPlace)
    (hval : ∀ (j : Nat) t v, Tryz.f5.params[j]? = some t → args[j]? = some v → Value.okWide Tryz.prog W .any base t v)
    (hW : DataW.Whole enc Tryz.prog Tryz.f5.params.toList Rows.regCodesSpec.vars false W args.toList ds gs before)
    (hw : (DataW.weightsEach Tryz.prog (Tryz.f5.params.toList ++ (OpenSpec.ofChange Rows.regCodesSpec).bare.plain.varTypes Tryz.prog) (ds ++ gs)).all (· ≤ reachBytes) = true)
    (hL : laidMetH Tryz.prog Rows.regCodesRow.laid W) :
    Calls Tryz.prog 5 args W fun e W' => ∃ v, e = .returned v ∧ Rows.regCodesSpec.post enc Tryz.prog Tryz.f5 false true false false W args v W' := by
  have hW' := hW
  obtain ⟨p, q, hA0, hV, rfl, hfz, hnd⟩ := hW
  have hA : DataW.TrodAll enc Tryz.prog W 0 (fun _ => true) true Tryz.f5.params.toList args.toList ds p := hA0
  rw [Tryz.params5] at hA hval
  obtain ⟨v0, vs0, d0, ds0, p0, q0, hargs, rfl, rfl, h0, r0⟩ := trodAll_cons hA
  obtain ⟨v1, vs1, d1, ds1, p1, q1, rfl, rfl, rfl, h1, r1⟩ := trodAll_cons r0
  obtain ⟨v2, vs2, d2, ds2, p2, q2, rfl, rfl, rfl, h2, r2⟩ := trodAll_cons r1
  obtain ⟨v3, vs3, d3, ds3, p3, q3, rfl, rfl, rfl, h3, r3⟩ := trodAll_cons r2
  obtain ⟨v4, vs4, d4, ds4, p4, q4, rfl, rfl, rfl, h4, r4⟩ := trodAll_cons r3
  obtain ⟨v5, vs5, d5, ds5, p5, q5, rfl, rfl, rfl, h5, r5⟩ := trodAll_cons r4
  obtain ⟨rfl, rfl, rfl⟩ := trodAll_nil r5
  obtain rfl : args = #[v0, v1, v2, v3, v4, v5] := by cases args; simp_all
  obtain ⟨rfl, rfl⟩ := trodVars_none hV
  rw [Tryz.params5] at hw
  have hw0 : (d0.weights Tryz.prog 22).all (· ≤ reachBytes) = true := by
    simp [DataW.weightsEach] at hw ⊢
    first | exact hw | exact hw.1 | exact hw.2.1 | exact hw.2.2 | exact hw.2.2.1
  have hv0 : Value.okWide Tryz.prog W .any base 22 v0 := hval 0 _ v0 rfl rfl
  obtain ⟨x0, hx0, hin0, hl0⟩ := arg_ints Tryz.underlying22 Tryz.underlying3 cellsInt bytesInt hv0 h0 hw0
  obtain ⟨qq1, cls1, IA1, ic1, DA1, dc1, rfl, hqc1, hqi1, hqo1⟩ := arg_code h1
  have hv2 : Value.okWide Tryz.prog W .any base 3 v2 := hval 2 _ v2 rfl rfl
  obtain ⟨n2, rfl, rfl, rfl, _⟩ := open_int Tryz.underlying3 hv2 h2
  have hv3 : Value.okWide Tryz.prog W .any base 3 v3 := hval 3 _ v3 rfl rfl
  obtain ⟨n3, rfl, rfl, rfl, _⟩ := open_int Tryz.underlying3 hv3 h3
  have hv4 : Value.okWide Tryz.prog W .any base 3 v4 := hval 4 _ v4 rfl rfl
  obtain ⟨n4, rfl, rfl, rfl, _⟩ := open_int Tryz.underlying3 hv4 h4
  have hv5 : Value.okWide Tryz.prog W .any base 3 v5 := hval 5 _ v5 rfl rfl
  obtain ⟨n5, rfl, rfl, rfl, _⟩ := open_int Tryz.underlying3 hv5 h5
  clear hw
  rw [MakeChecks.laidMetH_plain _ _ _ (by kernel_rfl)] at hL
  obtain ⟨ps, hlv, _, _⟩ := hL
  obtain ⟨hE, _, hlv2⟩ := envR_head hlv
  obtain ⟨hS, _⟩ := envS_head hlv2
  refine (c_lawRegCodes x0 v0 qq1 cls1 IA1 ic1 DA1 dc1 n2 n3 n4 n5 W W.heap.size hx0 hin0 hl0 hqc1 hqi1 hqo1 hE hS (Nat.le_refl _)).mono fun e W' ⟨he, hb⟩ => ?_
  subst he
  exact ⟨_, rfl, law_post laidOut rfl (by kernel_rfl) (by kernel_rfl) Tryz.underlying4 hW' rfl hb⟩

theorem laid_met (os : Os) (args : Array Value) : laidMet Tryz.prog Rows.regCodesRow.laid ((World.laidAll Tryz.prog os Rows.regCodesRow.laid).forCall (fun _ _ => 0) ⟨#[], args, []⟩).memory :=
  laidMet_laidAll _ (by kernel_rfl) (by kernel_rfl)
theorem reads (os : Os) {H : Type} (enc : TypeId × Value → H) : ∃ places, DataW.whole enc Tryz.prog ((World.laidAll Tryz.prog os Rows.regCodesRow.laid).forCall (fun _ _ => 0) ⟨#[], #[.slice none 0 0, .agg #[.int .i64 0, .slice none 0 0, .slice none 0 0, .slice none 0 0], .int .i64 0, .int .i64 0, .int .i64 0, .int .i64 0], []⟩).memory Tryz.f5.params.toList Rows.regCodesSpec.vars false #[Value.slice none 0 0, Value.agg #[.int .i64 0, .slice none 0 0, .slice none 0 0, .slice none 0 0], Value.int .i64 0, Value.int .i64 0, Value.int .i64 0, Value.int .i64 0].toList 8 = some ([.nil, .agg [.lit (.int .i64 0), .nil, .nil, .nil], .lit (.int .i64 0), .lit (.int .i64 0), .lit (.int .i64 0), .lit (.int .i64 0)], [], places) :=
  ⟨[], by kernel_rfl⟩

set_option maxRecDepth 100000 in
theorem lifted (os : Os) (started : os.Started) (H : Type) (enc : TypeId × Value → H) (F : Stop.Interp) :
    ReturnsInHanded {} Tryz.checked os 5 .any ((OpenSpec.ofChange Rows.regCodesSpec).preRow enc Tryz.prog Tryz.f5 Rows.regCodesRow.domain false Rows.regCodesRow.laid) (((OpenSpec.ofChange Rows.regCodesSpec).at F).post enc Tryz.prog Tryz.f5 false true false false) := by
  obtain ⟨places, hx⟩ := reads os enc
  refine returnsInHanded_of_row (C := Tryz.checked) (s := OpenSpec.ofChange Rows.regCodesSpec) own started (by kernel_rfl) Tryz.func5
    (witness_row_atRef (enc := enc) (C := Tryz.checked) false (World.laidAll Tryz.prog os Rows.regCodesRow.laid) #[.slice none 0 0, .agg #[.int .i64 0, .slice none 0 0, .slice none 0 0, .slice none 0 0], .int .i64 0, .int .i64 0, .int .i64 0, .int .i64 0] (World.laidAll_os _ _ _) (by kernel_rfl) (by kernel_rfl) (by kernel_rfl)
      (OpenSpec.preRow_of_cond 8 hx (by kernel_rfl) (fun k hk => by cases hk) (by kernel_rfl) (laid_met os _))) ?_
  intro W base args ds gs before hval hW _ _ hw hL _ _
  exact contract H enc W base args ds gs before hval hW hw hL

theorem said : Rows.RegCodesSaid :=
  OpenClaim.holds_of_cond 5 Tryz.f5 rfl rfl rfl rfl rfl rfl rfl ⟨rfl, rfl, rfl, rfl, rfl⟩ rfl rfl rfl rfl rfl (by kernel_rfl) Tryz.func5 (by kernel_rfl)
    (of_decide_eq_true (by kernel_rfl)) (by unfold Func.isWrapper; first | (rw [if_pos (by decide +kernel)]; kernel_rfl) | (rw [if_neg (by decide +kernel)]; exact ⟨rfl, rfl⟩))
    (fun os started H enc _ F => by rw [OpenClaim.pre_eq_preRow]; exact lifted os started H enc F)

theorem plain (f : FuncId) (fn : Func) (hf : Tryz.pinned.checked.prog.funcNamed "telpher/tellaw27.RegCodes" = some f) (hfn : Tryz.pinned.checked.prog.funcs[f]? = some fn) :
    false = Tryz.pinned.checked.prog.looks [] ∧ ∀ (j : Nat) t, fn.params[j]? = some t → Tryz.pinned.checked.prog.wantsStandIn t = false := by
  obtain rfl : f = 5 := Option.some.inj ((show Tryz.prog.funcNamed "telpher/tellaw27.RegCodes" = some 5 by kernel_rfl).symm.trans hf) |>.symm
  obtain rfl : fn = Tryz.f5 := (Option.some.inj (Tryz.func5.symm.trans hfn)).symm
  refine ⟨by kernel_rfl, fun j t ht => ?_⟩
  rw [Tryz.params5] at ht
  have hm := Array.mem_of_getElem? ht
  have hm2 : t = 22 ∨ t = 3 ∨ t = 26 := by simp at hm; first | omega | (rcases hm with h | h | h <;> first | exact .inl h | exact .inr h | exact .inr (.inl h) | exact .inr (.inr h))
  rcases hm2 with rfl | rfl | rfl
  · exact (show Tryz.prog.wantsStandIn 22 = false by kernel_rfl)
  · exact (show Tryz.prog.wantsStandIn 3 = false by kernel_rfl)
  · exact (show Tryz.prog.wantsStandIn 26 = false by kernel_rfl)

/-- THE CARD. -/
theorem card : Rows.RegCodesCardSaid :=
  Claim7.holds_tied_plain_at .later [] _ _ _ _ said (fun _ h => by cases h) (by kernel_rfl) (fun _ h => by cases h) regCodes_row_tie rfl ⟨rfl, rfl⟩ (by kernel_rfl) rfl plain (by kernel_rfl)
end Go.Proofs.YtdjldmpfginkdaaGreatDoor.regCodes
