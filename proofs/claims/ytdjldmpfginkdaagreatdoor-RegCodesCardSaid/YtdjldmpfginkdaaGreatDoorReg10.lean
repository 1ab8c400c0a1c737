/- Contract of telref25.tidy; what the operations' fields are, by groups. -/
import Derived.Test.YtdjldmpfginkdaaGreatDoorReg9
import Derived.BigGuard
namespace Go.Proofs.YtdjldmpfginkdaaGreatDoor
open Go.RowKit
attribute [local go_sem ↓] Go.wp_at_zero Go.wp_at_succ

/-- All fields that an operation does not use are zero. -/
def tidyB (x : Ins) : Bool := (oD x.op || decide (x.dst = 0)) && (oA x.op || decide (x.a = 0)) && (oB x.op x.imm || decide (x.b = 0)) && (oI x.op || decide (x.imm = 0)) && (oN x.op || decide (x.name.size = 0)) && (oL x.op || decide (x.args.length = 0)) && (oT x.op || x.ty.zero) && (oC x.op || zeroC x)

/-- The sixteen groups of operations by their fields. -/
inductive Comb : Bool → Bool → Bool → Bool → Bool → Bool → Bool → Bool → Prop
  | g0 : Comb true false false false false false false true
  | g1 : Comb true true false false false false false false
  | g2 : Comb true true false true false false false false
  | g3 : Comb true true true false false false false false
  | g4 : Comb true true true true false false false false
  | g5 : Comb true false false false false true true false
  | g6 : Comb true true false false true false false false
  | g7 : Comb false true true false true false false false
  | g8 : Comb true false false false false true false false
  | g9 : Comb true false false true false true false false
  | g10 : Comb true true false false false false true false
  | g11 : Comb true false false false true true false false
  | g12 : Comb false false false true false false false false
  | g13 : Comb false true false true false false false false
  | g14 : Comb false false false false false false false false
  | g15 : Comb false true false false false false false false
theorem comb_of (op imm : Int) (h : 1 ≤ op ∧ op ≤ 27) : Comb (oD op) (oA op) (oB op imm) (oI op) (oN op) (oL op) (oT op) (oC op) := by
  by_cases h8 : op = 8
  · subst h8
    by_cases h5 : imm = 5
    · have e : oB 8 imm = false := by simp [oB, h5]
      rw [e]
      exact Comb.g2
    · have e : oB 8 imm = true := by simp [oB, h5]
      rw [e]
      exact Comb.g4
  · have e : oB op imm = oB op 0 := by
      rw [oB_8, if_neg (by omega)]
    rw [e]
    have h27 : op = 1 ∨ op = 2 ∨ op = 3 ∨ op = 4 ∨ op = 5 ∨ op = 6 ∨ op = 7 ∨ op = 9 ∨ op = 10 ∨ op = 11 ∨ op = 12 ∨ op = 13 ∨ op = 14 ∨ op = 15 ∨ op = 16 ∨ op = 17 ∨ op = 18 ∨ op = 19 ∨ op = 20 ∨ op = 21 ∨ op = 22 ∨ op = 23 ∨ op = 24 ∨ op = 25 ∨ op = 26 ∨ op = 27 := by omega
    rcases h27 with rfl | rfl | rfl | rfl | rfl | rfl | rfl | rfl | rfl | rfl | rfl | rfl | rfl | rfl | rfl | rfl | rfl | rfl | rfl | rfl | rfl | rfl | rfl | rfl | rfl | rfl
    all_goals first | exact Comb.g0 | exact Comb.g1 | exact Comb.g2 | exact Comb.g3 | exact Comb.g4 | exact Comb.g5 | exact Comb.g6 | exact Comb.g7 | exact Comb.g8 | exact Comb.g9 | exact Comb.g10 | exact Comb.g11 | exact Comb.g12 | exact Comb.g13 | exact Comb.g14 | exact Comb.g15

theorem tidyB_eq (x : Ins) : tidyB x = ((oD x.op || decide (x.dst = 0)) && (oA x.op || decide (x.a = 0)) && (oB x.op x.imm || decide (x.b = 0)) && (oI x.op || decide (x.imm = 0)) && (oN x.op || decide (x.name.size = 0)) && (oL x.op || decide (x.args.length = 0)) && (oT x.op || decide (x.ty.kind = 0 ∧ x.ty.name.size = 0 ∧ x.ty.index = 0 ∧ x.ty.args.length = 0)) && (oC x.op || isZ x.ck x.ci x.cs x.ce)) := by unfold tidyB Ty.zero zeroC; with_reducible rfl
set_option maxRecDepth 100000 in
set_option maxHeartbeats 16000000 in
theorem c_tidy (x : Ins) (A : Option Addr) (c : Nat) (TA : Option Addr) (tc : Nat) (EA : Option Addr) (ec : Nat) (w : World) (hop : 1 ≤ x.op ∧ x.op ≤ 27) :
    Calls Tryz.prog 49 #[.agg #[.int .i64 x.op, .int .i64 x.dst, .int .i64 x.a, .int .i64 x.b, .int .i64 x.imm, .string x.name, .slice A x.args.length c, .int .i64 x.ty.kind, .string x.ty.name, .int .i64 x.ty.index, .slice TA x.ty.args.length tc, .int .i64 x.ck, .int .i64 x.ci, .string x.cs, .slice EA x.ce ec]] w fun e w' => e = .returned (.bool (tidyB x)) ∧ Below w.heap.size w w' := by
  have HF : Hid (tidyB x = ((oD x.op || decide (x.dst = 0)) && (oA x.op || decide (x.a = 0)) && (oB x.op x.imm || decide (x.b = 0)) && (oI x.op || decide (x.imm = 0)) && (oN x.op || decide (x.name.size = 0)) && (oL x.op || decide (x.args.length = 0)) && (oT x.op || decide (x.ty.kind = 0 ∧ x.ty.name.size = 0 ∧ x.ty.index = 0 ∧ x.ty.args.length = 0)) && (oC x.op || isZ x.ck x.ci x.cs x.ce))) := Lib.hid (tidyB_eq x)
  have hcb := comb_of x.op x.imm hop
  have HFL := Lib.hid (fun (W : World) => c_fieldsOf x.op x.imm (.int .i64 x.dst) (.int .i64 x.a) (.int .i64 x.b) (.string x.name) (.slice A x.args.length c) (.int .i64 x.ty.kind) (.string x.ty.name) (.int .i64 x.ty.index) (.slice TA x.ty.args.length tc) (.int .i64 x.ck) (.int .i64 x.ci) (.string x.cs) (.slice EA x.ce ec) W)
  unfold FldR at HFL
  have HK : Hid (∀ W', Below (w.alloc (.cells #[.int .i64 x.op, .int .i64 x.dst, .int .i64 x.a, .int .i64 x.b, .int .i64 x.imm, .string x.name, .slice A x.args.length c, .int .i64 x.ty.kind, .string x.ty.name, .int .i64 x.ty.index, .slice TA x.ty.args.length tc, .int .i64 x.ck, .int .i64 x.ci, .string x.cs, .slice EA x.ce ec] 38)).heap.size (w.alloc (.cells #[.int .i64 x.op, .int .i64 x.dst, .int .i64 x.a, .int .i64 x.b, .int .i64 x.imm, .string x.name, .slice A x.args.length c, .int .i64 x.ty.kind, .string x.ty.name, .int .i64 x.ty.index, .slice TA x.ty.args.length tc, .int .i64 x.ck, .int .i64 x.ci, .string x.cs, .slice EA x.ce ec] 38)) W' → (W'.cell? ⟨w.heap.size, 0, none⟩ = some (.int .i64 x.op) ∧ W'.cell? ⟨w.heap.size, 1, none⟩ = some (.int .i64 x.dst) ∧ W'.cell? ⟨w.heap.size, 2, none⟩ = some (.int .i64 x.a) ∧ W'.cell? ⟨w.heap.size, 3, none⟩ = some (.int .i64 x.b) ∧ W'.cell? ⟨w.heap.size, 4, none⟩ = some (.int .i64 x.imm) ∧ W'.cell? ⟨w.heap.size, 5, none⟩ = some (.string x.name) ∧ W'.cell? ⟨w.heap.size, 6, none⟩ = some (.slice A x.args.length c) ∧ W'.cell? ⟨w.heap.size, 7, none⟩ = some (.int .i64 x.ty.kind) ∧ W'.cell? ⟨w.heap.size, 8, none⟩ = some (.string x.ty.name) ∧ W'.cell? ⟨w.heap.size, 9, none⟩ = some (.int .i64 x.ty.index) ∧ W'.cell? ⟨w.heap.size, 10, none⟩ = some (.slice TA x.ty.args.length tc) ∧ W'.cell? ⟨w.heap.size, 11, none⟩ = some (.int .i64 x.ck) ∧ W'.cell? ⟨w.heap.size, 12, none⟩ = some (.int .i64 x.ci) ∧ W'.cell? ⟨w.heap.size, 13, none⟩ = some (.string x.cs) ∧ W'.cell? ⟨w.heap.size, 14, none⟩ = some (.slice EA x.ce ec)) ∧ Below w.heap.size w W' ∧ w.heap.size < W'.heap.size) := Lib.hid (fun W' hb => by
    have h1 := blk_new w (.cells #[.int .i64 x.op, .int .i64 x.dst, .int .i64 x.a, .int .i64 x.b, .int .i64 x.imm, .string x.name, .slice A x.args.length c, .int .i64 x.ty.kind, .string x.ty.name, .int .i64 x.ty.index, .slice TA x.ty.args.length tc, .int .i64 x.ck, .int .i64 x.ci, .string x.cs, .slice EA x.ce ec] 38)
    have hc : ∀ (b i : Nat), b ≤ w.heap.size → W'.cell? ⟨b, i, none⟩ = (w.alloc (.cells #[.int .i64 x.op, .int .i64 x.dst, .int .i64 x.a, .int .i64 x.b, .int .i64 x.imm, .string x.name, .slice A x.args.length c, .int .i64 x.ty.kind, .string x.ty.name, .int .i64 x.ty.index, .slice TA x.ty.args.length tc, .int .i64 x.ck, .int .i64 x.ci, .string x.cs, .slice EA x.ce ec] 38)).cell? ⟨b, i, none⟩ := fun b i hb' => hb.cell (p := ⟨b, i, none⟩) (by simp; omega)
    have hsz := hb.size
    refine ⟨⟨?_, ?_, ?_, ?_, ?_, ?_, ?_, ?_, ?_, ?_, ?_, ?_, ?_, ?_, ?_⟩, below_step (below_new _ _) hb, by simp at hsz; omega⟩
    all_goals (rw [hc _ _ (Nat.le_refl _), cell_of_row _ w.heap.size _ _ _ _ h1]; rfl))
  clear hop
  generalize oD x.op = od, oA x.op = oa, oB x.op x.imm = ob, oI x.op = oi, oN x.op = on, oL x.op = ol, oT x.op = ot, oC x.op = oc at *
  cases hcb
  all_goals
    go_enter Tryz.func49, Tryz.ntmps49
    simp only [List.append]
    go_wp2_with fail
    refine (HFL.out _).mono ?_
    rintro e w1 ⟨rfl, hb1⟩
    obtain ⟨⟨c0, c1, c2, c3, c4, c5, c6, c7, c8, c9, c10, c11, c12, c13, c14⟩, hbw, hsz⟩ := HK.out w1 hb1
    clear HFL HK hb1 c0
    go_wp2
    all_goals
      go_ret
      refine ⟨ret_bool ?_, ?_⟩
      rotate_left
      · first
          | exact below_step hbw (below_new _ _)
          | exact below_step (below_step hbw (below_new _ _)) (below_new _ _)
          | exact below_step (below_step (below_step hbw (below_new _ _)) (below_new _ _)) (below_new _ _)
      rw [HF.out]
      clear HF hbw c1 c2 c3 c4 c5 c6 c7 c8 c9 c10 c11 c12 c13 c14 hsz
      simp_all [toList_nil, isZ]
      try (rw [Bool.eq_iff_iff]; simp; done)
end Go.Proofs.YtdjldmpfginkdaaGreatDoor
