/- Contract of telref25.instrValid; what an instruction in memory keeps.
  Plain: when an instruction is valid, as the program asks it. -/
import Derived.Test.YtdjldmpfginkdaaGreatDoorReg10
import Derived.Test.YtdjldmpfginkdaaGreatDoorReg11
import Derived.Test.YtdjldmpfginkdaaGreatDoorRefValid
import Derived.Test.YtdjldmpfginkdaaGreatDoorValid
import Derived.Test.YtdjldmpfginkdaaGreatDoorGSets
namespace Go.Proofs.YtdjldmpfginkdaaGreatDoor
open Go.RowKit
attribute [local go_sem ↓] Go.wp_at_zero Go.wp_at_succ

/-- What is asked of an instruction that lies in memory. -/
structure InsOk (x : Ins) : Prop where
  tok : x.ty.ok
  tsz : x.ty.size ≤ 2 ^ 28
  css : x.cs.size ≤ 2 ^ 47
  alen : x.args.length ≤ 2 ^ 40
theorem insB_ref (r : Rc) (x : Ins) : insB r x = (decide (1 ≤ x.op ∧ x.op ≤ 27) && tidyB x && decide (x.args.length ≤ 6) && fitB r x && immG x.op x.imm r.instrs.length r.edits && (!oC x.op || litB x) && (!oN x.op || isIdent x.name) && (!oT x.op || (decide (x.ty.validate = 0) && x.ty.closed 0))) := by
  unfold insB tidyB immB
  rw [immF_eq]
  cases oT x.op
  · simp only [Bool.false_or, Bool.not_false, Bool.true_or, Bool.and_true, Bool.false_eq_true, if_false]
    ac_rfl
  · simp only [Bool.true_or, Bool.not_true, Bool.false_or, Bool.and_true, if_true]
    ac_rfl

section
variable {w : World} {u0 u1 u2 u3 : Value} {x : Ins} {A : Option Addr} {c : Nat} {TA : Option Addr} {tc : Nat} {EA : Option Addr} {ec : Nat}
/-- The boxes of a code and an instruction, in every world that keeps them. -/
def Two (w : World) (u0 u1 u2 u3 : Value) (x : Ins) (A : Option Addr) (c : Nat) (TA : Option Addr) (tc : Nat) (EA : Option Addr) (ec : Nat) (W' : World) : Prop :=
  (W'.cell? ⟨w.heap.size, 0, none⟩ = some (u0) ∧ W'.cell? ⟨w.heap.size, 1, none⟩ = some (u1) ∧ W'.cell? ⟨w.heap.size, 2, none⟩ = some (u2) ∧ W'.cell? ⟨w.heap.size, 3, none⟩ = some (u3)) ∧ (W'.cell? ⟨w.heap.size + 1, 0, none⟩ = some (.int .i64 x.op) ∧ W'.cell? ⟨w.heap.size + 1, 1, none⟩ = some (.int .i64 x.dst) ∧ W'.cell? ⟨w.heap.size + 1, 2, none⟩ = some (.int .i64 x.a) ∧ W'.cell? ⟨w.heap.size + 1, 3, none⟩ = some (.int .i64 x.b) ∧ W'.cell? ⟨w.heap.size + 1, 4, none⟩ = some (.int .i64 x.imm) ∧ W'.cell? ⟨w.heap.size + 1, 5, none⟩ = some (.string x.name) ∧ W'.cell? ⟨w.heap.size + 1, 6, none⟩ = some (.slice A x.args.length c) ∧ W'.cell? ⟨w.heap.size + 1, 7, none⟩ = some (.int .i64 x.ty.kind) ∧ W'.cell? ⟨w.heap.size + 1, 8, none⟩ = some (.string x.ty.name) ∧ W'.cell? ⟨w.heap.size + 1, 9, none⟩ = some (.int .i64 x.ty.index) ∧ W'.cell? ⟨w.heap.size + 1, 10, none⟩ = some (.slice TA x.ty.args.length tc) ∧ W'.cell? ⟨w.heap.size + 1, 11, none⟩ = some (.int .i64 x.ck) ∧ W'.cell? ⟨w.heap.size + 1, 12, none⟩ = some (.int .i64 x.ci) ∧ W'.cell? ⟨w.heap.size + 1, 13, none⟩ = some (.string x.cs) ∧ W'.cell? ⟨w.heap.size + 1, 14, none⟩ = some (.slice EA x.ce ec)) ∧ Below w.heap.size w W' ∧ w.heap.size + 2 ≤ W'.heap.size
theorem two_boxes : ∀ W', Below ((w.alloc (.cells #[u0, u1, u2, u3] 26)).alloc (.cells #[.int .i64 x.op, .int .i64 x.dst, .int .i64 x.a, .int .i64 x.b, .int .i64 x.imm, .string x.name, .slice A x.args.length c, .int .i64 x.ty.kind, .string x.ty.name, .int .i64 x.ty.index, .slice TA x.ty.args.length tc, .int .i64 x.ck, .int .i64 x.ci, .string x.cs, .slice EA x.ce ec] 38)).heap.size ((w.alloc (.cells #[u0, u1, u2, u3] 26)).alloc (.cells #[.int .i64 x.op, .int .i64 x.dst, .int .i64 x.a, .int .i64 x.b, .int .i64 x.imm, .string x.name, .slice A x.args.length c, .int .i64 x.ty.kind, .string x.ty.name, .int .i64 x.ty.index, .slice TA x.ty.args.length tc, .int .i64 x.ck, .int .i64 x.ci, .string x.cs, .slice EA x.ce ec] 38)) W' → Two w u0 u1 u2 u3 x A c TA tc EA ec W' := fun W' hb => by
  have h1 := blk_old (o' := .cells #[.int .i64 x.op, .int .i64 x.dst, .int .i64 x.a, .int .i64 x.b, .int .i64 x.imm, .string x.name, .slice A x.args.length c, .int .i64 x.ty.kind, .string x.ty.name, .int .i64 x.ty.index, .slice TA x.ty.args.length tc, .int .i64 x.ck, .int .i64 x.ci, .string x.cs, .slice EA x.ce ec] 38) (blk_new w (.cells #[u0, u1, u2, u3] 26))
  have h2 := blk_new2 w (.cells #[u0, u1, u2, u3] 26) (.cells #[.int .i64 x.op, .int .i64 x.dst, .int .i64 x.a, .int .i64 x.b, .int .i64 x.imm, .string x.name, .slice A x.args.length c, .int .i64 x.ty.kind, .string x.ty.name, .int .i64 x.ty.index, .slice TA x.ty.args.length tc, .int .i64 x.ck, .int .i64 x.ci, .string x.cs, .slice EA x.ce ec] 38)
  have hc : ∀ (b i : Nat), b < w.heap.size + 2 → W'.cell? ⟨b, i, none⟩ = ((w.alloc (.cells #[u0, u1, u2, u3] 26)).alloc (.cells #[.int .i64 x.op, .int .i64 x.dst, .int .i64 x.a, .int .i64 x.b, .int .i64 x.imm, .string x.name, .slice A x.args.length c, .int .i64 x.ty.kind, .string x.ty.name, .int .i64 x.ty.index, .slice TA x.ty.args.length tc, .int .i64 x.ck, .int .i64 x.ci, .string x.cs, .slice EA x.ce ec] 38)).cell? ⟨b, i, none⟩ := fun b i hb' => hb.cell (p := ⟨b, i, none⟩) (by simp; omega)
  have hsz := hb.size
  simp at hsz
  refine ⟨⟨?_, ?_, ?_, ?_⟩, ⟨?_, ?_, ?_, ?_, ?_, ?_, ?_, ?_, ?_, ?_, ?_, ?_, ?_, ?_, ?_⟩, below_step (below_step (below_new _ _) (below_new _ _)) hb, by omega⟩
  · rw [hc _ _ (by omega), cell_of_row _ w.heap.size _ _ _ _ h1]; rfl
  · rw [hc _ _ (by omega), cell_of_row _ w.heap.size _ _ _ _ h1]; rfl
  · rw [hc _ _ (by omega), cell_of_row _ w.heap.size _ _ _ _ h1]; rfl
  · rw [hc _ _ (by omega), cell_of_row _ w.heap.size _ _ _ _ h1]; rfl
  all_goals (rw [hc _ _ (by omega), cell_of_row _ (w.heap.size + 1) _ _ _ _ h2]; rfl)
theorem Two.step {W W' : World} (h : Two w u0 u1 u2 u3 x A c TA tc EA ec W) (hb : Below W.heap.size W W') : Two w u0 u1 u2 u3 x A c TA tc EA ec W' := by
  obtain ⟨⟨b0, b1, b2, b3⟩, ⟨c0, c1, c2, c3, c4, c5, c6, c7, c8, c9, c10, c11, c12, c13, c14⟩, hbw, hsz⟩ := h
  have hc : ∀ (b i : Nat) (v : Value), W.cell? ⟨b, i, none⟩ = some v → b < w.heap.size + 2 → W'.cell? ⟨b, i, none⟩ = some v := fun b i v h hb' => (hb.cell (p := ⟨b, i, none⟩) (by simp; omega)).trans h
  have hs := hb.size
  exact ⟨⟨hc _ _ _ b0 (by omega), hc _ _ _ b1 (by omega), hc _ _ _ b2 (by omega), hc _ _ _ b3 (by omega)⟩, ⟨hc _ _ _ c0 (by omega), hc _ _ _ c1 (by omega), hc _ _ _ c2 (by omega), hc _ _ _ c3 (by omega), hc _ _ _ c4 (by omega), hc _ _ _ c5 (by omega), hc _ _ _ c6 (by omega), hc _ _ _ c7 (by omega), hc _ _ _ c8 (by omega), hc _ _ _ c9 (by omega), hc _ _ _ c10 (by omega), hc _ _ _ c11 (by omega), hc _ _ _ c12 (by omega), hc _ _ _ c13 (by omega), hc _ _ _ c14 (by omega)⟩, below_step hbw hb, by omega⟩
/-- Eight Bools in a block of their own. -/
def Bits (b : Nat) (x0 x1 x2 x3 x4 x5 x6 x7 : Bool) (W : World) : Prop := b < W.heap.size ∧ W.cell? ⟨b, 0, none⟩ = some (.bool x0) ∧ W.cell? ⟨b, 1, none⟩ = some (.bool x1) ∧ W.cell? ⟨b, 2, none⟩ = some (.bool x2) ∧ W.cell? ⟨b, 3, none⟩ = some (.bool x3) ∧ W.cell? ⟨b, 4, none⟩ = some (.bool x4) ∧ W.cell? ⟨b, 5, none⟩ = some (.bool x5) ∧ W.cell? ⟨b, 6, none⟩ = some (.bool x6) ∧ W.cell? ⟨b, 7, none⟩ = some (.bool x7)
theorem Bits.step {b : Nat} {x0 x1 x2 x3 x4 x5 x6 x7 : Bool} {W W' : World} (h : Bits b x0 x1 x2 x3 x4 x5 x6 x7 W) (hb : Below W.heap.size W W') : Bits b x0 x1 x2 x3 x4 x5 x6 x7 W' := by
  obtain ⟨hl, h0, h1, h2, h3, h4, h5, h6, h7⟩ := h
  have hc : ∀ (i : Nat) (v : Value), W.cell? ⟨b, i, none⟩ = some v → W'.cell? ⟨b, i, none⟩ = some v := fun i v h => (hb.cell (p := ⟨b, i, none⟩) hl).trans h
  exact ⟨Nat.lt_of_lt_of_le hl hb.size, hc _ _ h0, hc _ _ h1, hc _ _ h2, hc _ _ h3, hc _ _ h4, hc _ _ h5, hc _ _ h6, hc _ _ h7⟩
theorem bits_new (W : World) (T : TypeId) (x0 x1 x2 x3 x4 x5 x6 x7 : Bool) : Bits W.heap.size x0 x1 x2 x3 x4 x5 x6 x7 (W.alloc (.cells #[.bool x0, .bool x1, .bool x2, .bool x3, .bool x4, .bool x5, .bool x6, .bool x7] T)) := by
  have h1 := blk_new W (.cells #[.bool x0, .bool x1, .bool x2, .bool x3, .bool x4, .bool x5, .bool x6, .bool x7] T)
  refine ⟨by simp, ?_, ?_, ?_, ?_, ?_, ?_, ?_, ?_⟩
  all_goals (rw [cell_of_row _ W.heap.size _ _ _ _ h1]; rfl)
end

set_option maxRecDepth 100000 in
set_option maxHeartbeats 16000000 in
theorem c_instrValid (r : Rc) (x : Ins) (u0 v : Value) (IA : Option Addr) (ic : Nat) (DA : Option Addr) (dc : Nat) (A : Option Addr) (c : Nat) (TA : Option Addr) (tc : Nat) (EA : Option Addr) (ec : Nat) (w : World) (B : Nat)
    (hv : IsInts w B r.classes v) (hB : B ≤ w.heap.size) (hx : IsInts w B x.args (.slice A x.args.length c)) (ht : IsTy w 0 B x.ty (.agg #[.int .i64 x.ty.kind, .string x.ty.name, .int .i64 x.ty.index, .slice TA x.ty.args.length tc])) (hok : InsOk x) (hcl : ∀ c ∈ r.classes, 0 ≤ c ∧ c ≤ 2) :
    Calls Tryz.prog 24 #[.agg #[u0, v, .slice IA r.instrs.length ic, .slice DA r.edits dc], .agg #[.int .i64 x.op, .int .i64 x.dst, .int .i64 x.a, .int .i64 x.b, .int .i64 x.imm, .string x.name, .slice A x.args.length c, .int .i64 x.ty.kind, .string x.ty.name, .int .i64 x.ty.index, .slice TA x.ty.args.length tc, .int .i64 x.ck, .int .i64 x.ci, .string x.cs, .slice EA x.ce ec]] w fun e w' => e = .returned (.bool (insB r x)) ∧ Below w.heap.size w w' := by
  have HF := Lib.hid (insB_ref r x)
  have HFL := Lib.hid (fun (W : World) => c_fieldsOf x.op x.imm (.int .i64 x.dst) (.int .i64 x.a) (.int .i64 x.b) (.string x.name) (.slice A x.args.length c) (.int .i64 x.ty.kind) (.string x.ty.name) (.int .i64 x.ty.index) (.slice TA x.ty.args.length tc) (.int .i64 x.ck) (.int .i64 x.ci) (.string x.cs) (.slice EA x.ce ec) W)
  unfold FldR at HFL
  have HTI := Lib.hid (fun (W : World) (h : 1 ≤ x.op ∧ x.op ≤ 27) => c_tidy x A c TA tc EA ec W h)
  have HCF := Lib.hid (fun (W : World) (hW : Below w.heap.size w W) => c_classesFit25 r x u0 (.slice IA r.instrs.length ic) (.slice DA r.edits dc) v A c TA tc EA ec W B (hv.below hW hB) (Nat.le_trans hB hW.size) (hx.below hW hB) hok.alen hcl)
  have HIM := Lib.hid (fun (W : World) => c_immFits x.op x.imm u0 v (.int .i64 x.dst) (.int .i64 x.a) (.int .i64 x.b) (.string x.name) (.slice A x.args.length c) (.int .i64 x.ty.kind) (.string x.ty.name) (.int .i64 x.ty.index) (.slice TA x.ty.args.length tc) (.int .i64 x.ck) (.int .i64 x.ci) (.string x.cs) (.slice EA x.ce ec) IA DA r.instrs.length ic r.edits dc W)
  have HFV := Lib.hid (fun (W : World) => c_FromValue x.ck x.ci x.cs EA x.ce ec W hok.css)
  have HID := Lib.hid (fun (W : World) => c_rIsIdent x.name W)
  have HTV := Lib.hid (fun (W : World) (hW : Below w.heap.size w W) => c_TermValidate x.ty W 0 B _ (ht.below hW hB) (Nat.le_trans hB hW.size) hok.tok (Nat.le_trans hok.tsz (by omega)))
  have HTC := Lib.hid (fun (W : World) (hW : Below w.heap.size w W) => c_TermClosed x.ty W 0 B _ (ht.below hW hB) (Nat.le_trans hB hW.size) hok.tok (Nat.le_trans hok.tsz (by omega)))
  have HTB := Lib.hid (two_boxes (w := w) (u0 := u0) (u1 := v) (u2 := .slice IA r.instrs.length ic) (u3 := .slice DA r.edits dc) (x := x) (A := A) (c := c) (TA := TA) (tc := tc) (EA := EA) (ec := ec))
  clear hv hB hx ht hok hcl
  generalize r.instrs.length = n, r.edits = e at *
  go_enter Tryz.func24, Tryz.ntmps24
  go_wp2_with fail
  refine (HFL.out _).mono ?_
  rintro e w1 ⟨rfl, hb1⟩
  have H2 := Lib.hid (HTB.out w1 hb1)
  clear HTB hb1 HFL
  have H3 : Hid (∀ W, W = w1.alloc (.cells #[.bool (oD x.op), .bool (oA x.op), .bool (oB x.op x.imm), .bool (oI x.op), .bool (oN x.op), .bool (oL x.op), .bool (oT x.op), .bool (oC x.op)] 79) → Two w u0 v (.slice IA n ic) (.slice DA e dc) x A c TA tc EA ec W ∧ Bits w1.heap.size (oD x.op) (oA x.op) (oB x.op x.imm) (oI x.op) (oN x.op) (oL x.op) (oT x.op) (oC x.op) W) := Lib.hid (fun W hW => by
    subst hW
    exact ⟨H2.out.step (below_new _ _), bits_new _ _ _ _ _ _ _ _ _ _⟩)
  obtain ⟨⟨b0, b1, b2, b3⟩, ⟨c0, c1, c2, c3, c4, c5, c6, c7, c8, c9, c10, c11, c12, c13, c14⟩, hbw, hsz⟩ := H2.out
  have hq0 : w.heap.size < w1.heap.size := by omega
  have hq1 : w.heap.size + 1 < w1.heap.size := by omega
  by_cases h1 : x.op < 1
  · have hz : decide (1 ≤ x.op ∧ x.op ≤ 27) = false := by rw [decide_eq_false_iff_not]; omega
    have HZ : Hid (insB r x = false) := Lib.hid (HF.out.trans (by simp only [hz, Bool.false_and]))
    clear hz HF H2 H3
    go_wp2_with fail
    go_ret
    exact ⟨ret_bool HZ.out.symm, below_step hbw (below_new _ _)⟩
  by_cases h27 : 27 < x.op
  · have hz : decide (1 ≤ x.op ∧ x.op ≤ 27) = false := by rw [decide_eq_false_iff_not]; omega
    have HZ : Hid (insB r x = false) := Lib.hid (HF.out.trans (by simp only [hz, Bool.false_and]))
    clear hz HF H2 H3
    go_wp2_with fail
    go_ret
    exact ⟨ret_bool HZ.out.symm, below_step hbw (below_new _ _)⟩
  have hz : decide (1 ≤ x.op ∧ x.op ≤ 27) = true := by rw [decide_eq_true_eq]; omega
  rw [hz, Bool.true_and] at HF
  have HOP : Hid (1 ≤ x.op ∧ x.op ≤ 27) := Lib.hid ⟨by omega, by omega⟩
  clear hz
  go_wp2_with fail
  generalize hW3 : w1.alloc _ = w3
  obtain ⟨h3, h3b⟩ := H3.out w3 hW3.symm
  have H3T := Lib.hid h3
  have H3B := Lib.hid h3b
  generalize w1.heap.size = sb at *
  clear hW3 H3 H2 h3 h3b b0 b1 b2 b3 c0 c1 c2 c3 c4 c5 c6 c7 c8 c9 c10 c11 c12 c13 c14 hbw hsz hq0 hq1
  refine (HTI.out _ HOP.out).mono ?_
  rintro e w4 ⟨rfl, hb4⟩
  have H4T := Lib.hid (H3T.out.step hb4)
  have H4B := Lib.hid (H3B.out.step hb4)
  clear H3T H3B hb4 HTI
  obtain ⟨⟨b0, b1, b2, b3⟩, ⟨c0, c1, c2, c3, c4, c5, c6, c7, c8, c9, c10, c11, c12, c13, c14⟩, hbw, hsz⟩ := H4T.out
  obtain ⟨hsb, s0, s1, s2, s3, s4, s5, s6, s7⟩ := H4B.out
  cases htb : tidyB x
  · have HZ : Hid (insB r x = false) := Lib.hid (HF.out.trans (by simp only [htb, Bool.false_and]))
    clear htb HF
    go_wp2_with fail
    go_ret
    exact ⟨ret_bool HZ.out.symm, hbw⟩
  rw [htb, Bool.true_and] at HF
  clear htb
  by_cases h6 : (6 : Int) < (x.args.length : Int)
  · have hz : decide (x.args.length ≤ 6) = false := by rw [decide_eq_false_iff_not]; omega
    have HZ : Hid (insB r x = false) := Lib.hid (HF.out.trans (by simp only [hz, Bool.false_and]))
    clear hz HF
    go_wp2_with fail
    go_ret
    exact ⟨ret_bool HZ.out.symm, hbw⟩
  have hz : decide (x.args.length ≤ 6) = true := by rw [decide_eq_true_eq]; omega
  rw [hz, Bool.true_and] at HF
  clear hz
  go_wp2_with fail
  have hbw4 := hbw
  clear b0 b1 b2 b3 c0 c1 c2 c3 c4 c5 c6 c7 c8 c9 c10 c11 c12 c13 c14 hbw hsz hsb s0 s1 s2 s3 s4 s5 s6 s7
  refine (HCF.out _ hbw4).mono ?_
  rintro e w5 ⟨rfl, hb5⟩
  have H5T := Lib.hid (H4T.out.step hb5)
  have H5B := Lib.hid (H4B.out.step hb5)
  clear H4T H4B hb5 HCF hbw4
  obtain ⟨⟨b0, b1, b2, b3⟩, ⟨c0, c1, c2, c3, c4, c5, c6, c7, c8, c9, c10, c11, c12, c13, c14⟩, hbw, hsz⟩ := H5T.out
  obtain ⟨hsb, s0, s1, s2, s3, s4, s5, s6, s7⟩ := H5B.out
  cases hft : fitB r x
  · have HZ : Hid (insB r x = false) := Lib.hid (HF.out.trans (by simp only [hft, Bool.false_and]))
    clear hft HF
    go_wp2_with fail
    go_ret
    exact ⟨ret_bool HZ.out.symm, hbw⟩
  rw [hft, Bool.true_and] at HF
  clear hft
  go_wp2_with fail
  clear b0 b1 b2 b3 c0 c1 c2 c3 c4 c5 c6 c7 c8 c9 c10 c11 c12 c13 c14 hbw hsz hsb s0 s1 s2 s3 s4 s5 s6 s7
  refine (HIM.out _).mono ?_
  rintro e w6 ⟨rfl, hb6⟩
  have H6T := Lib.hid (H5T.out.step hb6)
  have H6B := Lib.hid (H5B.out.step hb6)
  clear H5T H5B hb6 HIM
  obtain ⟨⟨b0, b1, b2, b3⟩, ⟨c0, c1, c2, c3, c4, c5, c6, c7, c8, c9, c10, c11, c12, c13, c14⟩, hbw, hsz⟩ := H6T.out
  obtain ⟨hsb, s0, s1, s2, s3, s4, s5, s6, s7⟩ := H6B.out
  cases him : immG x.op x.imm n e
  · have HZ : Hid (insB r x = false) := Lib.hid (HF.out.trans (by simp only [him, Bool.false_and]))
    clear him HF
    go_wp2_with fail
    go_ret
    exact ⟨ret_bool HZ.out.symm, hbw⟩
  rw [him, Bool.true_and] at HF
  clear him
  have hcb := comb_of x.op x.imm HOP.out
  generalize oD x.op = od, oA x.op = oa, oB x.op x.imm = ob, oI x.op = oi, oL x.op = ol, oC x.op = oc, oN x.op = on, oT x.op = ot at *
  have hx : (oc = false ∧ on = false ∧ ot = false) ∨ (oc = true ∧ on = false ∧ ot = false) ∨ (oc = false ∧ on = true ∧ ot = false) ∨ (oc = false ∧ on = false ∧ ot = true) := by cases hcb <;> simp
  clear hcb
  rcases hx with ⟨rfl, rfl, rfl⟩ | ⟨rfl, rfl, rfl⟩ | ⟨rfl, rfl, rfl⟩ | ⟨rfl, rfl, rfl⟩
  · simp only [Bool.not_false, Bool.true_or, Bool.true_and] at HF
    clear HFV HID HTV HTC
    go_wp2_with fail
    go_ret
    exact ⟨ret_bool HF.out.symm, hbw⟩
  · simp only [Bool.not_true, Bool.false_or, Bool.not_false, Bool.true_or, Bool.and_true] at HF
    clear HID HTV HTC
    go_wp2_with fail
    clear b0 b1 b2 b3 c0 c1 c2 c3 c4 c5 c6 c7 c8 c9 c10 c11 c12 c13 c14 hbw hsz hsb s0 s1 s2 s3 s4 s5 s6 s7
    refine (HFV.out _).mono ?_
    rintro e7 w7 ⟨nm, rfl, hb7⟩
    rw [show litF x.ck x.ci x.cs x.ce = litB x from rfl] at *
    have H7T := Lib.hid (H6T.out.step hb7)
    have H7B := Lib.hid (H6B.out.step hb7)
    clear H6T H6B hb7 HFV
    cases hlt : litB x
    · rw [hlt] at HF
      clear hlt
      have hbw := H7T.out.2.2.1
      unfold absV
      simp only [Bool.false_eq_true, if_false]
      go_wp2_with fail
      go_ret
      exact ⟨ret_bool HF.out.symm, below_step hbw (below_new _ _)⟩
    · rw [hlt] at HF
      clear hlt
      unfold absV
      simp only [if_true]
      obtain ⟨⟨b0, b1, b2, b3⟩, ⟨c0, c1, c2, c3, c4, c5, c6, c7, c8, c9, c10, c11, c12, c13, c14⟩, hbw, hsz⟩ := H7T.out
      obtain ⟨hsb, s0, s1, s2, s3, s4, s5, s6, s7⟩ := H7B.out
      have hq1 : w.heap.size + 1 < w7.heap.size := by omega
      go_wp2_with fail
      go_ret
      exact ⟨ret_bool HF.out.symm, below_step hbw (below_new _ _)⟩
  · simp only [Bool.not_true, Bool.false_or, Bool.not_false, Bool.true_or, Bool.and_true, Bool.true_and] at HF
    clear HFV HTV HTC
    go_wp2_with fail
    refine (HID.out _).mono ?_
    rintro e8 w8 ⟨rfl, rfl⟩
    cases hid : isIdent x.name
    all_goals
      rw [hid] at HF
      clear hid
      go_wp2_with fail
      go_ret
      exact ⟨ret_bool HF.out.symm, hbw⟩
  · simp only [Bool.not_true, Bool.false_or, Bool.not_false, Bool.true_or, Bool.true_and] at HF
    clear HFV HID
    go_wp2_with fail
    have hbw9 := hbw
    clear b0 b1 b2 b3 c0 c1 c2 c3 c4 c5 c6 c7 c8 c9 c10 c11 c12 c13 c14 hbw hsz hsb s0 s1 s2 s3 s4 s5 s6 s7
    refine (HTV.out _ hbw9).mono ?_
    rintro e9 w9 ⟨rfl, hb9⟩
    have H9T := Lib.hid (H6T.out.step hb9)
    have H9B := Lib.hid (H6B.out.step hb9)
    clear hb9 HTV hbw9
    obtain ⟨⟨b0, b1, b2, b3⟩, ⟨c0, c1, c2, c3, c4, c5, c6, c7, c8, c9, c10, c11, c12, c13, c14⟩, hbw, hsz⟩ := H9T.out
    obtain ⟨hsb, s0, s1, s2, s3, s4, s5, s6, s7⟩ := H9B.out
    by_cases hval : x.ty.validate = 0
    · rw [hval] at HF
      rw [hval]
      simp only [decide_true, Bool.true_and] at HF
      clear hval
      go_wp2_with fail
      have hbw9 := hbw
      clear b0 b1 b2 b3 c0 c1 c2 c3 c4 c5 c6 c7 c8 c9 c10 c11 c12 c13 c14 hbw hsz hsb s0 s1 s2 s3 s4 s5 s6 s7
      refine (HTC.out _ hbw9).mono ?_
      rintro e10 w10 ⟨rfl, hb10⟩
      have hbw := below_step hbw9 hb10
      clear hb10 hbw9 HTC
      go_wp2_with fail
      go_ret
      exact ⟨ret_bool HF.out.symm, hbw⟩
    · have kval := beq_f hval
      have HZ : Hid (insB r x = false) := Lib.hid (HF.out.trans (by simp only [hval, decide_false, Bool.false_and]))
      clear HF hval
      generalize x.ty.validate = vl at *
      go_wp2_with fail
      go_ret
      exact ⟨ret_bool HZ.out.symm, hbw⟩
end Go.Proofs.YtdjldmpfginkdaaGreatDoor
namespace Go.Proofs.YtdjldmpfginkdaaGreatDoor
open Go.RowKit
attribute [local go_sem ↓] Go.wp_at_zero Go.wp_at_succ

theorem cmp_zeroTy (t : Ty) : (t.cmp zeroTy == 0) = t.zero := by
  rw [Bool.eq_iff_iff]
  simp only [beq_iff_eq, Ty.zero, decide_eq_true_eq]
  rw [Ty.cmp_eq, or0_zero]
  unfold Ty.hd hd4
  simp only [or0_zero, cI_zero]
  have hs : cS t.name zeroTy.name = 0 ↔ t.name.size = 0 := by
    rw [← toList_nil]
    have hn : zeroTy.name.toList = [] := (toList_nil zeroTy.name).2 rfl
    rcases cS_cases t.name zeroTy.name with ⟨e, h⟩ | ⟨e, h⟩ | ⟨e, h⟩
    · rw [e]
      constructor
      · intro h0; omega
      · intro h0
        rw [h0, hn, bl_irrefl] at h
        cases h
    · rw [e]
      exact ⟨fun _ => h.trans hn, fun _ => rfl⟩
    · rw [e]
      constructor
      · intro h0; omega
      · intro h0
        rw [h0, hn, bl_irrefl] at h
        cases h
  rw [hs]
  constructor
  · rintro ⟨⟨h1, h2, h3, h4⟩, _⟩
    exact ⟨h1, h2, h3, by have : (t.args.length : Int) = 0 := h4; omega⟩
  · rintro ⟨h1, h2, h3, h4⟩
    refine ⟨⟨h1, h2, h3, by show (t.args.length : Int) = 0; omega⟩, ?_⟩
    have : t.args = [] := List.eq_nil_of_length_eq_zero h4
    rw [this]
    rfl
/-- The fields that must be zero, but for the constant and the type. -/
def preB (dst a b : Int) (nm : ByteArray) (la : Nat) (od oa ob on ol : Bool) : Bool := (od || decide (dst = 0)) && (oa || decide (a = 0)) && (ob || decide (b = 0)) && (on || decide (nm.size = 0)) && (ol || decide (la = 0))
theorem insB_prog (r : Rc) (x : Ins) : insB r x = (decide (1 ≤ x.op ∧ x.op ≤ 27) && (preB x.dst x.a x.b x.name x.args.length (oD x.op) (oA x.op) (oB x.op x.imm) (oN x.op) (oL x.op) && ((oC x.op || zeroC x) && ((if oT x.op then decide (x.ty.validate = 0) && x.ty.closed 0 else x.ty.zero) && ((!oC x.op || litB x) && ((!oN x.op || isIdent x.name) && (decide (x.args.length ≤ 6) && (fitB r x && immF x.op x.imm r.instrs.length r.edits)))))))) := by
  unfold insB preB immB
  simp only [Bool.and_assoc]
/-- The eleven groups of operations by their fields, the number left out. -/
inductive Comb2 : Bool → Bool → Bool → Bool → Bool → Bool → Bool → Prop
  | g0 : Comb2 true false false false false false true
  | g1 : Comb2 true true false false false false false
  | g2 : Comb2 true true true false false false false
  | g3 : Comb2 true false false false true true false
  | g4 : Comb2 true true false true false false false
  | g5 : Comb2 false true true true false false false
  | g6 : Comb2 true false false false true false false
  | g7 : Comb2 true true false false false true false
  | g8 : Comb2 true false false true true false false
  | g9 : Comb2 false false false false false false false
  | g10 : Comb2 false true false false false false false
theorem comb2_of {d a b i n l t c : Bool} (h : Comb d a b i n l t c) : Comb2 d a b n l t c := by
  cases h
  all_goals first | exact Comb2.g0 | exact Comb2.g1 | exact Comb2.g2 | exact Comb2.g3 | exact Comb2.g4 | exact Comb2.g5 | exact Comb2.g6 | exact Comb2.g7 | exact Comb2.g8 | exact Comb2.g9 | exact Comb2.g10
theorem neb_t {a b : Int} (h : a = b) : (a != b) = false := by rw [h]; simp
theorem neb_f {a b : Int} (h : ¬ a = b) : (a != b) = true := by simpa using h

end Go.Proofs.YtdjldmpfginkdaaGreatDoor
