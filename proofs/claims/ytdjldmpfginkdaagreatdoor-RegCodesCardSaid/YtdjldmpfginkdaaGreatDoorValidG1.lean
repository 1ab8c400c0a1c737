/- Contract of regcode.valid, for some groups of operations. -/
import Derived.Test.YtdjldmpfginkdaaGreatDoorGRegE
namespace Go.Proofs.YtdjldmpfginkdaaGreatDoor
open Go.RowKit
attribute [local go_sem ↓] Go.wp_at_zero Go.wp_at_succ

set_option maxRecDepth 100000 in
set_option maxHeartbeats 16000000 in
theorem c_valid_g0 (r : Rc) (x : Ins) (u0 v : Value) (IA : Option Addr) (ic : Nat) (DA : Option Addr) (dc : Nat) (A : Option Addr) (c : Nat) (TA : Option Addr) (tc : Nat) (EA : Option Addr) (ec : Nat) (w : World) (B G : Nat)
    (hv : IsInts w B r.classes v) (hB : B ≤ w.heap.size) (hx : IsInts w B x.args (.slice A x.args.length c)) (ht : IsTy w 0 B x.ty (.agg #[.int .i64 x.ty.kind, .string x.ty.name, .int .i64 x.ty.index, .slice TA x.ty.args.length tc])) (hok : InsOk x)
    (hE : EnvS w G) (hR : EnvR w G) (hG : G ≤ w.heap.size) (hop : 1 ≤ x.op ∧ x.op ≤ 27) (qd : oD x.op = true) (qa : oA x.op = false) (qb : oB x.op x.imm = false) (qn : oN x.op = false) (ql : oL x.op = false) (qt : oT x.op = false) (qc : oC x.op = true) :
    Calls Tryz.prog 22 #[.agg #[u0, v, .slice IA r.instrs.length ic, .slice DA r.edits dc], .agg #[.int .i64 x.op, .int .i64 x.dst, .int .i64 x.a, .int .i64 x.b, .int .i64 x.imm, .string x.name, .slice A x.args.length c, .int .i64 x.ty.kind, .string x.ty.name, .int .i64 x.ty.index, .slice TA x.ty.args.length tc, .int .i64 x.ck, .int .i64 x.ci, .string x.cs, .slice EA x.ce ec]] w fun e w' => e = .returned (.bool (insB r x)) ∧ Below w.heap.size w w' := by
  have HF := Lib.hid (insB_prog r x)
  have HSH := Lib.hid (fun (W : World) (hW : Below w.heap.size w W) => c_shapeOf x.op x.imm (.int .i64 x.dst) (.int .i64 x.a) (.int .i64 x.b) (.string x.name) (.slice A x.args.length c) (.int .i64 x.ty.kind) (.string x.ty.name) (.int .i64 x.ty.index) (.slice TA x.ty.args.length tc) (.int .i64 x.ck) (.int .i64 x.ci) (.string x.cs) (.slice EA x.ce ec) W G (hE.below hW hG) (Nat.le_trans hG hW.size))
  unfold ShpR at HSH
  have HCZ := Lib.hid (fun (W : World) => c_isZero x.ck x.ci x.cs EA x.ce ec W)
  have HCF := Lib.hid (fun (W : World) (hW : Below w.heap.size w W) => c_classesFit r x u0 (.slice IA r.instrs.length ic) (.slice DA r.edits dc) v A c TA tc EA ec (.bool (oI x.op)) (.bool (oN x.op)) (.bool (oL x.op)) (.bool (oT x.op)) (.bool (oC x.op)) W B (hv.below hW hB) (Nat.le_trans hB hW.size) (hx.below hW hB) hok.alen)
  have HIM := Lib.hid (fun (W : World) => c_toFits x.op x.imm u0 v (.int .i64 x.dst) (.int .i64 x.a) (.int .i64 x.b) (.string x.name) (.slice A x.args.length c) (.int .i64 x.ty.kind) (.string x.ty.name) (.int .i64 x.ty.index) (.slice TA x.ty.args.length tc) (.int .i64 x.ck) (.int .i64 x.ci) (.string x.cs) (.slice EA x.ce ec) IA DA r.instrs.length ic r.edits dc W)
  have HLT := Lib.hid (fun (W : World) => c_isLiteral x.ck x.ci x.cs EA x.ce ec W)
  have HID := Lib.hid (fun (W : World) => c_rcIsIdent x.name W)
  have HTV := Lib.hid (fun (W : World) (hW : Below w.heap.size w W) => c_Validate x.ty W 0 B G _ (ht.below hW hB) (Nat.le_trans hB hW.size) hok.tok (Nat.le_trans hok.tsz (by omega)) (hR.below hW hG) (Nat.le_trans hG hW.size))
  have HFR := Lib.hid (fun (W : World) (hW : Below w.heap.size w W) => c_FreeVars x.ty W 0 B _ (ht.below hW hB) (Nat.le_trans hB hW.size) hok.tok hok.tsz)
  have HEQ := Lib.hid (fun (W : World) (hW : Below w.heap.size w W) => c_Equal x.ty zeroTy W 0 B 0 0 _ (.agg #[.int .i64 0, .string ⟨#[]⟩, .int .i64 0, .slice none 0 0]) (ht.below hW hB) (IsTy.mk_ (IsTyl.nil none 0)) (Nat.le_trans hB hW.size) (Nat.zero_le _) (Nat.le_trans hok.tsz (by omega)))
  rw [cmp_zeroTy] at HEQ
  have HCL : Hid ((insAll [] (x.ty.fvs 0)).length = 0 ↔ x.ty.closed 0 = true) := Lib.hid (Ty.fvs_nil_iff x.ty)
  have HTB := Lib.hid (two_boxes (w := w) (u0 := u0) (u1 := v) (u2 := .slice IA r.instrs.length ic) (u3 := .slice DA r.edits dc) (x := x) (A := A) (c := c) (TA := TA) (tc := tc) (EA := EA) (ec := ec))
  have qk : decide (1 ≤ x.op ∧ x.op ≤ 27) = true := by simpa using hop
  clear hv hB hx ht hok hE hR hG hop
  generalize r.instrs.length = n, r.edits = e at *
  generalize oD x.op = od, oA x.op = oa, oB x.op x.imm = ob, oI x.op = oi, oN x.op = on, oL x.op = ol, oT x.op = ot, oC x.op = oc, decide (1 ≤ x.op ∧ x.op ≤ 27) = okb at *
  subst qd qa qb qn ql qt qc qk
  have HFc : Hid (insB r x = (preB x.dst x.a x.b x.name x.args.length true false false false false && (x.ty.zero && (litB x && (decide (x.args.length ≤ 6) && (fitB r x && immF x.op x.imm n e)))))) := Lib.hid HF.out
  clear HF
  have HF := HFc
  clear HFc
  go_enter Tryz.func22, Tryz.ntmps22
  go_wp2_with fail
  have HT0 := Lib.hid (HTB.out _ (Below.refl _ _))
  refine (HSH.out _ HT0.out.2.2.1).mono ?_
  rintro e' w1 ⟨rfl, hb1⟩
  have H2 := Lib.hid (HTB.out w1 hb1)
  clear HTB hb1 HSH HT0
  have H3 : Hid (∀ W, W = w1.alloc (.cells #[.bool true, .bool false, .bool false, .bool oi, .bool false, .bool false, .bool false, .bool true] 65) → Two w u0 v (.slice IA n ic) (.slice DA e dc) x A c TA tc EA ec W ∧ Bits w1.heap.size true false false oi false false false true W) := Lib.hid (fun W hW => by
    subst hW
    exact ⟨H2.out.step (below_new _ _), bits_new _ _ _ _ _ _ _ _ _ _⟩)
  obtain ⟨⟨b0, b1, b2, b3⟩, ⟨c0, c1, c2, c3, c4, c5, c6, c7, c8, c9, c10, c11, c12, c13, c14⟩, hbw, hsz⟩ := H2.out
  have hq1 : w.heap.size + 1 < w1.heap.size := by omega
  cases hpre : preB x.dst x.a x.b x.name x.args.length true false false false false
  · have HZ : Hid (insB r x = false) := Lib.hid (HF.out.trans (by rw [hpre]; rfl))
    have HP := Lib.hid hpre
    clear hpre HF H2 H3 HCZ HCF HIM HLT HID HTV HFR HEQ HCL
    by_cases hargs : x.args = []
    all_goals
      go_wp2_with fail
      all_goals first
        | (go_ret; exact ⟨ret_bool HZ.out.symm, below_step hbw (below_new _ _)⟩)
        | (exfalso; have hp := HP.out; clear HP HZ c0 c1 c2 c3 c4 c5 c6 c7 c8 c9 c10 c11 c12 c13 c14 b0 b1 b2 b3; have hn := toList_nil x.name; simp_all [preB]; done)
  · rw [hpre, Bool.true_and] at HF
    unfold preB at hpre
    simp only [Bool.and_eq_true] at hpre
    obtain ⟨⟨⟨⟨p0, p1⟩, p2⟩, p3⟩, p4⟩ := hpre
    have j1 : (x.a != 0) = false ∧ (x.a == 0) = true := by simpa using p1
    obtain ⟨j1, j1'⟩ := j1
    have j2 : (x.b != 0) = false ∧ (x.b == 0) = true := by simpa using p2
    obtain ⟨j2, j2'⟩ := j2
    have j3 : x.name.toList = [] := by rw [toList_nil]; simpa using p3
    have hargs : x.args = [] := List.eq_nil_of_length_eq_zero (by simpa using p4)
    clear p0 p1 p2 p3 p4
    rw [hargs] at HCF HIM HF
    simp only [List.length_nil] at HCF HIM
    have HFc : Hid (insB r x = (x.ty.zero && (litB x && (fitB r x && immF x.op x.imm n e)))) := Lib.hid HF.out
    clear HF
    have HF := HFc
    clear HFc
    go_wp2_with fail
    generalize hW3 : w1.alloc _ = w3
    obtain ⟨h3, h3b⟩ := H3.out w3 hW3.symm
    have HT := Lib.hid h3
    have HB := Lib.hid h3b
    generalize w1.heap.size = sb at *
    clear hW3 H3 H2 h3 h3b hq1
    clear b0 b1 b2 b3 c0 c1 c2 c3 c4 c5 c6 c7 c8 c9 c10 c11 c12 c13 c14 hbw hsz
    obtain ⟨⟨b0, b1, b2, b3⟩, ⟨c0, c1, c2, c3, c4, c5, c6, c7, c8, c9, c10, c11, c12, c13, c14⟩, hbw, hsz⟩ := HT.out
    obtain ⟨hsb, s0, s1, s2, s3, s4, s5, s6, s7⟩ := HB.out
    clear b0 b1 b2 b3 c0 c1 c2 c3 c4 c5 c6 c7 c8 c9 c10 c11 c12 c13 c14 hbw hsz hsb s0 s1 s2 s3 s4 s5 s6 s7
    refine (HEQ.out _ HT.out.2.2.1).mono ?_
    rintro e5 w5 ⟨rfl, hbn⟩
    clear HEQ HTV HFR HCL
    have HTn := Lib.hid (HT.out.step hbn)
    have HBn := Lib.hid (HB.out.step hbn)
    clear HT HB hbn
    have HT := HTn
    have HB := HBn
    clear HTn HBn
    obtain ⟨⟨b0, b1, b2, b3⟩, ⟨c0, c1, c2, c3, c4, c5, c6, c7, c8, c9, c10, c11, c12, c13, c14⟩, hbw, hsz⟩ := HT.out
    obtain ⟨hsb, s0, s1, s2, s3, s4, s5, s6, s7⟩ := HB.out
    cases hzt : x.ty.zero
    · have HZ : Hid (insB r x = false) := Lib.hid (HF.out.trans (by rw [hzt]; rfl))
      clear HF
      go_wp2_with fail
      go_ret
      exact ⟨ret_bool HZ.out.symm, hbw⟩
    rw [hzt, Bool.true_and] at HF
    clear hzt
    go_wp2_with fail
    clear b0 b1 b2 b3 c0 c1 c2 c3 c4 c5 c6 c7 c8 c9 c10 c11 c12 c13 c14 hbw hsz hsb s0 s1 s2 s3 s4 s5 s6 s7
    refine (HLT.out _).mono ?_
    rintro e6 w6 ⟨rfl, hbn⟩
    clear HLT
    have HTn := Lib.hid (HT.out.step hbn)
    have HBn := Lib.hid (HB.out.step hbn)
    clear HT HB hbn
    have HT := HTn
    have HB := HBn
    clear HTn HBn
    obtain ⟨⟨b0, b1, b2, b3⟩, ⟨c0, c1, c2, c3, c4, c5, c6, c7, c8, c9, c10, c11, c12, c13, c14⟩, hbw, hsz⟩ := HT.out
    obtain ⟨hsb, s0, s1, s2, s3, s4, s5, s6, s7⟩ := HB.out
    rw [show litF x.ck x.ci x.cs x.ce = litB x from rfl]
    cases hlb : litB x
    · have HZ : Hid (insB r x = false) := Lib.hid (HF.out.trans (by rw [hlb]; rfl))
      clear HF
      go_wp2_with fail
      go_ret
      exact ⟨ret_bool HZ.out.symm, hbw⟩
    rw [hlb, Bool.true_and] at HF
    clear hlb
    go_wp2_with fail
    have hbw5 := hbw
    clear b0 b1 b2 b3 c0 c1 c2 c3 c4 c5 c6 c7 c8 c9 c10 c11 c12 c13 c14 hbw hsz hsb s0 s1 s2 s3 s4 s5 s6 s7
    refine (HCF.out _ hbw5).mono ?_
    rintro e7 w7 ⟨rfl, hbn⟩
    clear HCF hbw5
    have HTn := Lib.hid (HT.out.step hbn)
    have HBn := Lib.hid (HB.out.step hbn)
    clear HT HB hbn
    have HT := HTn
    have HB := HBn
    clear HTn HBn
    obtain ⟨⟨b0, b1, b2, b3⟩, ⟨c0, c1, c2, c3, c4, c5, c6, c7, c8, c9, c10, c11, c12, c13, c14⟩, hbw, hsz⟩ := HT.out
    obtain ⟨hsb, s0, s1, s2, s3, s4, s5, s6, s7⟩ := HB.out
    cases hft : fitB r x
    · have HZ : Hid (insB r x = false) := Lib.hid (HF.out.trans (by rw [hft]; rfl))
      clear HF
      go_wp2_with fail
      go_ret
      exact ⟨ret_bool HZ.out.symm, hbw⟩
    rw [hft, Bool.true_and] at HF
    clear hft
    go_wp2_with fail
    have hbw5 := hbw
    clear b0 b1 b2 b3 c0 c1 c2 c3 c4 c5 c6 c7 c8 c9 c10 c11 c12 c13 c14 hbw hsz hsb s0 s1 s2 s3 s4 s5 s6 s7
    refine (HIM.out _).mono ?_
    rintro e8 w8 ⟨rfl, hbn⟩
    have hbw := below_step hbw5 hbn
    clear hbn hbw5 HIM
    go_wp2_with fail
    go_ret
    exact ⟨ret_bool HF.out.symm, hbw⟩
set_option maxRecDepth 100000 in
set_option maxHeartbeats 16000000 in
theorem c_valid_g1 (r : Rc) (x : Ins) (u0 v : Value) (IA : Option Addr) (ic : Nat) (DA : Option Addr) (dc : Nat) (A : Option Addr) (c : Nat) (TA : Option Addr) (tc : Nat) (EA : Option Addr) (ec : Nat) (w : World) (B G : Nat)
    (hv : IsInts w B r.classes v) (hB : B ≤ w.heap.size) (hx : IsInts w B x.args (.slice A x.args.length c)) (ht : IsTy w 0 B x.ty (.agg #[.int .i64 x.ty.kind, .string x.ty.name, .int .i64 x.ty.index, .slice TA x.ty.args.length tc])) (hok : InsOk x)
    (hE : EnvS w G) (hR : EnvR w G) (hG : G ≤ w.heap.size) (hop : 1 ≤ x.op ∧ x.op ≤ 27) (qd : oD x.op = true) (qa : oA x.op = true) (qb : oB x.op x.imm = false) (qn : oN x.op = false) (ql : oL x.op = false) (qt : oT x.op = false) (qc : oC x.op = false) :
    Calls Tryz.prog 22 #[.agg #[u0, v, .slice IA r.instrs.length ic, .slice DA r.edits dc], .agg #[.int .i64 x.op, .int .i64 x.dst, .int .i64 x.a, .int .i64 x.b, .int .i64 x.imm, .string x.name, .slice A x.args.length c, .int .i64 x.ty.kind, .string x.ty.name, .int .i64 x.ty.index, .slice TA x.ty.args.length tc, .int .i64 x.ck, .int .i64 x.ci, .string x.cs, .slice EA x.ce ec]] w fun e w' => e = .returned (.bool (insB r x)) ∧ Below w.heap.size w w' := by
  have HF := Lib.hid (insB_prog r x)
  have HSH := Lib.hid (fun (W : World) (hW : Below w.heap.size w W) => c_shapeOf x.op x.imm (.int .i64 x.dst) (.int .i64 x.a) (.int .i64 x.b) (.string x.name) (.slice A x.args.length c) (.int .i64 x.ty.kind) (.string x.ty.name) (.int .i64 x.ty.index) (.slice TA x.ty.args.length tc) (.int .i64 x.ck) (.int .i64 x.ci) (.string x.cs) (.slice EA x.ce ec) W G (hE.below hW hG) (Nat.le_trans hG hW.size))
  unfold ShpR at HSH
  have HCZ := Lib.hid (fun (W : World) => c_isZero x.ck x.ci x.cs EA x.ce ec W)
  have HCF := Lib.hid (fun (W : World) (hW : Below w.heap.size w W) => c_classesFit r x u0 (.slice IA r.instrs.length ic) (.slice DA r.edits dc) v A c TA tc EA ec (.bool (oI x.op)) (.bool (oN x.op)) (.bool (oL x.op)) (.bool (oT x.op)) (.bool (oC x.op)) W B (hv.below hW hB) (Nat.le_trans hB hW.size) (hx.below hW hB) hok.alen)
  have HIM := Lib.hid (fun (W : World) => c_toFits x.op x.imm u0 v (.int .i64 x.dst) (.int .i64 x.a) (.int .i64 x.b) (.string x.name) (.slice A x.args.length c) (.int .i64 x.ty.kind) (.string x.ty.name) (.int .i64 x.ty.index) (.slice TA x.ty.args.length tc) (.int .i64 x.ck) (.int .i64 x.ci) (.string x.cs) (.slice EA x.ce ec) IA DA r.instrs.length ic r.edits dc W)
  have HLT := Lib.hid (fun (W : World) => c_isLiteral x.ck x.ci x.cs EA x.ce ec W)
  have HID := Lib.hid (fun (W : World) => c_rcIsIdent x.name W)
  have HTV := Lib.hid (fun (W : World) (hW : Below w.heap.size w W) => c_Validate x.ty W 0 B G _ (ht.below hW hB) (Nat.le_trans hB hW.size) hok.tok (Nat.le_trans hok.tsz (by omega)) (hR.below hW hG) (Nat.le_trans hG hW.size))
  have HFR := Lib.hid (fun (W : World) (hW : Below w.heap.size w W) => c_FreeVars x.ty W 0 B _ (ht.below hW hB) (Nat.le_trans hB hW.size) hok.tok hok.tsz)
  have HEQ := Lib.hid (fun (W : World) (hW : Below w.heap.size w W) => c_Equal x.ty zeroTy W 0 B 0 0 _ (.agg #[.int .i64 0, .string ⟨#[]⟩, .int .i64 0, .slice none 0 0]) (ht.below hW hB) (IsTy.mk_ (IsTyl.nil none 0)) (Nat.le_trans hB hW.size) (Nat.zero_le _) (Nat.le_trans hok.tsz (by omega)))
  rw [cmp_zeroTy] at HEQ
  have HCL : Hid ((insAll [] (x.ty.fvs 0)).length = 0 ↔ x.ty.closed 0 = true) := Lib.hid (Ty.fvs_nil_iff x.ty)
  have HTB := Lib.hid (two_boxes (w := w) (u0 := u0) (u1 := v) (u2 := .slice IA r.instrs.length ic) (u3 := .slice DA r.edits dc) (x := x) (A := A) (c := c) (TA := TA) (tc := tc) (EA := EA) (ec := ec))
  have qk : decide (1 ≤ x.op ∧ x.op ≤ 27) = true := by simpa using hop
  clear hv hB hx ht hok hE hR hG hop
  generalize r.instrs.length = n, r.edits = e at *
  generalize oD x.op = od, oA x.op = oa, oB x.op x.imm = ob, oI x.op = oi, oN x.op = on, oL x.op = ol, oT x.op = ot, oC x.op = oc, decide (1 ≤ x.op ∧ x.op ≤ 27) = okb at *
  subst qd qa qb qn ql qt qc qk
  have HFc : Hid (insB r x = (preB x.dst x.a x.b x.name x.args.length true true false false false && (zeroC x && (x.ty.zero && (decide (x.args.length ≤ 6) && (fitB r x && immF x.op x.imm n e)))))) := Lib.hid HF.out
  clear HF
  have HF := HFc
  clear HFc
  go_enter Tryz.func22, Tryz.ntmps22
  go_wp2_with fail
  have HT0 := Lib.hid (HTB.out _ (Below.refl _ _))
  refine (HSH.out _ HT0.out.2.2.1).mono ?_
  rintro e' w1 ⟨rfl, hb1⟩
  have H2 := Lib.hid (HTB.out w1 hb1)
  clear HTB hb1 HSH HT0
  have H3 : Hid (∀ W, W = w1.alloc (.cells #[.bool true, .bool true, .bool false, .bool oi, .bool false, .bool false, .bool false, .bool false] 65) → Two w u0 v (.slice IA n ic) (.slice DA e dc) x A c TA tc EA ec W ∧ Bits w1.heap.size true true false oi false false false false W) := Lib.hid (fun W hW => by
    subst hW
    exact ⟨H2.out.step (below_new _ _), bits_new _ _ _ _ _ _ _ _ _ _⟩)
  obtain ⟨⟨b0, b1, b2, b3⟩, ⟨c0, c1, c2, c3, c4, c5, c6, c7, c8, c9, c10, c11, c12, c13, c14⟩, hbw, hsz⟩ := H2.out
  have hq1 : w.heap.size + 1 < w1.heap.size := by omega
  cases hpre : preB x.dst x.a x.b x.name x.args.length true true false false false
  · have HZ : Hid (insB r x = false) := Lib.hid (HF.out.trans (by rw [hpre]; rfl))
    have HP := Lib.hid hpre
    clear hpre HF H2 H3 HCZ HCF HIM HLT HID HTV HFR HEQ HCL
    by_cases hargs : x.args = []
    all_goals
      go_wp2_with fail
      all_goals first
        | (go_ret; exact ⟨ret_bool HZ.out.symm, below_step hbw (below_new _ _)⟩)
        | (exfalso; have hp := HP.out; clear HP HZ c0 c1 c2 c3 c4 c5 c6 c7 c8 c9 c10 c11 c12 c13 c14 b0 b1 b2 b3; have hn := toList_nil x.name; simp_all [preB]; done)
  · rw [hpre, Bool.true_and] at HF
    unfold preB at hpre
    simp only [Bool.and_eq_true] at hpre
    obtain ⟨⟨⟨⟨p0, p1⟩, p2⟩, p3⟩, p4⟩ := hpre
    have j2 : (x.b != 0) = false ∧ (x.b == 0) = true := by simpa using p2
    obtain ⟨j2, j2'⟩ := j2
    have j3 : x.name.toList = [] := by rw [toList_nil]; simpa using p3
    have hargs : x.args = [] := List.eq_nil_of_length_eq_zero (by simpa using p4)
    clear p0 p1 p2 p3 p4
    rw [hargs] at HCF HIM HF
    simp only [List.length_nil] at HCF HIM
    have HFc : Hid (insB r x = (zeroC x && (x.ty.zero && (fitB r x && immF x.op x.imm n e)))) := Lib.hid HF.out
    clear HF
    have HF := HFc
    clear HFc
    go_wp2_with fail
    generalize hW3 : w1.alloc _ = w3
    obtain ⟨h3, h3b⟩ := H3.out w3 hW3.symm
    have HT := Lib.hid h3
    have HB := Lib.hid h3b
    generalize w1.heap.size = sb at *
    clear hW3 H3 H2 h3 h3b hq1
    clear b0 b1 b2 b3 c0 c1 c2 c3 c4 c5 c6 c7 c8 c9 c10 c11 c12 c13 c14 hbw hsz
    obtain ⟨⟨b0, b1, b2, b3⟩, ⟨c0, c1, c2, c3, c4, c5, c6, c7, c8, c9, c10, c11, c12, c13, c14⟩, hbw, hsz⟩ := HT.out
    obtain ⟨hsb, s0, s1, s2, s3, s4, s5, s6, s7⟩ := HB.out
    clear b0 b1 b2 b3 c0 c1 c2 c3 c4 c5 c6 c7 c8 c9 c10 c11 c12 c13 c14 hbw hsz hsb s0 s1 s2 s3 s4 s5 s6 s7
    refine (HCZ.out _).mono ?_
    rintro e4 w4 ⟨rfl, hbn⟩
    clear HCZ
    have HTn := Lib.hid (HT.out.step hbn)
    have HBn := Lib.hid (HB.out.step hbn)
    clear HT HB hbn
    have HT := HTn
    have HB := HBn
    clear HTn HBn
    obtain ⟨⟨b0, b1, b2, b3⟩, ⟨c0, c1, c2, c3, c4, c5, c6, c7, c8, c9, c10, c11, c12, c13, c14⟩, hbw, hsz⟩ := HT.out
    obtain ⟨hsb, s0, s1, s2, s3, s4, s5, s6, s7⟩ := HB.out
    rw [show isZ x.ck x.ci x.cs x.ce = zeroC x from rfl]
    cases hzc : zeroC x
    · have HZ : Hid (insB r x = false) := Lib.hid (HF.out.trans (by rw [hzc]; rfl))
      clear HF
      go_wp2_with fail
      go_ret
      exact ⟨ret_bool HZ.out.symm, hbw⟩
    rw [hzc, Bool.true_and] at HF
    clear hzc
    go_wp2_with fail
    clear b0 b1 b2 b3 c0 c1 c2 c3 c4 c5 c6 c7 c8 c9 c10 c11 c12 c13 c14 hbw hsz hsb s0 s1 s2 s3 s4 s5 s6 s7
    refine (HEQ.out _ HT.out.2.2.1).mono ?_
    rintro e5 w5 ⟨rfl, hbn⟩
    clear HEQ HTV HFR HCL
    have HTn := Lib.hid (HT.out.step hbn)
    have HBn := Lib.hid (HB.out.step hbn)
    clear HT HB hbn
    have HT := HTn
    have HB := HBn
    clear HTn HBn
    obtain ⟨⟨b0, b1, b2, b3⟩, ⟨c0, c1, c2, c3, c4, c5, c6, c7, c8, c9, c10, c11, c12, c13, c14⟩, hbw, hsz⟩ := HT.out
    obtain ⟨hsb, s0, s1, s2, s3, s4, s5, s6, s7⟩ := HB.out
    cases hzt : x.ty.zero
    · have HZ : Hid (insB r x = false) := Lib.hid (HF.out.trans (by rw [hzt]; rfl))
      clear HF
      go_wp2_with fail
      go_ret
      exact ⟨ret_bool HZ.out.symm, hbw⟩
    rw [hzt, Bool.true_and] at HF
    clear hzt
    go_wp2_with fail
    have hbw5 := hbw
    clear b0 b1 b2 b3 c0 c1 c2 c3 c4 c5 c6 c7 c8 c9 c10 c11 c12 c13 c14 hbw hsz hsb s0 s1 s2 s3 s4 s5 s6 s7
    refine (HCF.out _ hbw5).mono ?_
    rintro e7 w7 ⟨rfl, hbn⟩
    clear HCF hbw5
    have HTn := Lib.hid (HT.out.step hbn)
    have HBn := Lib.hid (HB.out.step hbn)
    clear HT HB hbn
    have HT := HTn
    have HB := HBn
    clear HTn HBn
    obtain ⟨⟨b0, b1, b2, b3⟩, ⟨c0, c1, c2, c3, c4, c5, c6, c7, c8, c9, c10, c11, c12, c13, c14⟩, hbw, hsz⟩ := HT.out
    obtain ⟨hsb, s0, s1, s2, s3, s4, s5, s6, s7⟩ := HB.out
    cases hft : fitB r x
    · have HZ : Hid (insB r x = false) := Lib.hid (HF.out.trans (by rw [hft]; rfl))
      clear HF
      go_wp2_with fail
      go_ret
      exact ⟨ret_bool HZ.out.symm, hbw⟩
    rw [hft, Bool.true_and] at HF
    clear hft
    go_wp2_with fail
    have hbw5 := hbw
    clear b0 b1 b2 b3 c0 c1 c2 c3 c4 c5 c6 c7 c8 c9 c10 c11 c12 c13 c14 hbw hsz hsb s0 s1 s2 s3 s4 s5 s6 s7
    refine (HIM.out _).mono ?_
    rintro e8 w8 ⟨rfl, hbn⟩
    have hbw := below_step hbw5 hbn
    clear hbn hbw5 HIM
    go_wp2_with fail
    go_ret
    exact ⟨ret_bool HF.out.symm, hbw⟩
set_option maxRecDepth 100000 in
set_option maxHeartbeats 16000000 in
theorem c_valid_g2 (r : Rc) (x : Ins) (u0 v : Value) (IA : Option Addr) (ic : Nat) (DA : Option Addr) (dc : Nat) (A : Option Addr) (c : Nat) (TA : Option Addr) (tc : Nat) (EA : Option Addr) (ec : Nat) (w : World) (B G : Nat)
    (hv : IsInts w B r.classes v) (hB : B ≤ w.heap.size) (hx : IsInts w B x.args (.slice A x.args.length c)) (ht : IsTy w 0 B x.ty (.agg #[.int .i64 x.ty.kind, .string x.ty.name, .int .i64 x.ty.index, .slice TA x.ty.args.length tc])) (hok : InsOk x)
    (hE : EnvS w G) (hR : EnvR w G) (hG : G ≤ w.heap.size) (hop : 1 ≤ x.op ∧ x.op ≤ 27) (qd : oD x.op = true) (qa : oA x.op = true) (qb : oB x.op x.imm = true) (qn : oN x.op = false) (ql : oL x.op = false) (qt : oT x.op = false) (qc : oC x.op = false) :
    Calls Tryz.prog 22 #[.agg #[u0, v, .slice IA r.instrs.length ic, .slice DA r.edits dc], .agg #[.int .i64 x.op, .int .i64 x.dst, .int .i64 x.a, .int .i64 x.b, .int .i64 x.imm, .string x.name, .slice A x.args.length c, .int .i64 x.ty.kind, .string x.ty.name, .int .i64 x.ty.index, .slice TA x.ty.args.length tc, .int .i64 x.ck, .int .i64 x.ci, .string x.cs, .slice EA x.ce ec]] w fun e w' => e = .returned (.bool (insB r x)) ∧ Below w.heap.size w w' := by
  have HF := Lib.hid (insB_prog r x)
  have HSH := Lib.hid (fun (W : World) (hW : Below w.heap.size w W) => c_shapeOf x.op x.imm (.int .i64 x.dst) (.int .i64 x.a) (.int .i64 x.b) (.string x.name) (.slice A x.args.length c) (.int .i64 x.ty.kind) (.string x.ty.name) (.int .i64 x.ty.index) (.slice TA x.ty.args.length tc) (.int .i64 x.ck) (.int .i64 x.ci) (.string x.cs) (.slice EA x.ce ec) W G (hE.below hW hG) (Nat.le_trans hG hW.size))
  unfold ShpR at HSH
  have HCZ := Lib.hid (fun (W : World) => c_isZero x.ck x.ci x.cs EA x.ce ec W)
  have HCF := Lib.hid (fun (W : World) (hW : Below w.heap.size w W) => c_classesFit r x u0 (.slice IA r.instrs.length ic) (.slice DA r.edits dc) v A c TA tc EA ec (.bool (oI x.op)) (.bool (oN x.op)) (.bool (oL x.op)) (.bool (oT x.op)) (.bool (oC x.op)) W B (hv.below hW hB) (Nat.le_trans hB hW.size) (hx.below hW hB) hok.alen)
  have HIM := Lib.hid (fun (W : World) => c_toFits x.op x.imm u0 v (.int .i64 x.dst) (.int .i64 x.a) (.int .i64 x.b) (.string x.name) (.slice A x.args.length c) (.int .i64 x.ty.kind) (.string x.ty.name) (.int .i64 x.ty.index) (.slice TA x.ty.args.length tc) (.int .i64 x.ck) (.int .i64 x.ci) (.string x.cs) (.slice EA x.ce ec) IA DA r.instrs.length ic r.edits dc W)
  have HLT := Lib.hid (fun (W : World) => c_isLiteral x.ck x.ci x.cs EA x.ce ec W)
  have HID := Lib.hid (fun (W : World) => c_rcIsIdent x.name W)
  have HTV := Lib.hid (fun (W : World) (hW : Below w.heap.size w W) => c_Validate x.ty W 0 B G _ (ht.below hW hB) (Nat.le_trans hB hW.size) hok.tok (Nat.le_trans hok.tsz (by omega)) (hR.below hW hG) (Nat.le_trans hG hW.size))
  have HFR := Lib.hid (fun (W : World) (hW : Below w.heap.size w W) => c_FreeVars x.ty W 0 B _ (ht.below hW hB) (Nat.le_trans hB hW.size) hok.tok hok.tsz)
  have HEQ := Lib.hid (fun (W : World) (hW : Below w.heap.size w W) => c_Equal x.ty zeroTy W 0 B 0 0 _ (.agg #[.int .i64 0, .string ⟨#[]⟩, .int .i64 0, .slice none 0 0]) (ht.below hW hB) (IsTy.mk_ (IsTyl.nil none 0)) (Nat.le_trans hB hW.size) (Nat.zero_le _) (Nat.le_trans hok.tsz (by omega)))
  rw [cmp_zeroTy] at HEQ
  have HCL : Hid ((insAll [] (x.ty.fvs 0)).length = 0 ↔ x.ty.closed 0 = true) := Lib.hid (Ty.fvs_nil_iff x.ty)
  have HTB := Lib.hid (two_boxes (w := w) (u0 := u0) (u1 := v) (u2 := .slice IA r.instrs.length ic) (u3 := .slice DA r.edits dc) (x := x) (A := A) (c := c) (TA := TA) (tc := tc) (EA := EA) (ec := ec))
  have qk : decide (1 ≤ x.op ∧ x.op ≤ 27) = true := by simpa using hop
  clear hv hB hx ht hok hE hR hG hop
  generalize r.instrs.length = n, r.edits = e at *
  generalize oD x.op = od, oA x.op = oa, oB x.op x.imm = ob, oI x.op = oi, oN x.op = on, oL x.op = ol, oT x.op = ot, oC x.op = oc, decide (1 ≤ x.op ∧ x.op ≤ 27) = okb at *
  subst qd qa qb qn ql qt qc qk
  have HFc : Hid (insB r x = (preB x.dst x.a x.b x.name x.args.length true true true false false && (zeroC x && (x.ty.zero && (decide (x.args.length ≤ 6) && (fitB r x && immF x.op x.imm n e)))))) := Lib.hid HF.out
  clear HF
  have HF := HFc
  clear HFc
  go_enter Tryz.func22, Tryz.ntmps22
  go_wp2_with fail
  have HT0 := Lib.hid (HTB.out _ (Below.refl _ _))
  refine (HSH.out _ HT0.out.2.2.1).mono ?_
  rintro e' w1 ⟨rfl, hb1⟩
  have H2 := Lib.hid (HTB.out w1 hb1)
  clear HTB hb1 HSH HT0
  have H3 : Hid (∀ W, W = w1.alloc (.cells #[.bool true, .bool true, .bool true, .bool oi, .bool false, .bool false, .bool false, .bool false] 65) → Two w u0 v (.slice IA n ic) (.slice DA e dc) x A c TA tc EA ec W ∧ Bits w1.heap.size true true true oi false false false false W) := Lib.hid (fun W hW => by
    subst hW
    exact ⟨H2.out.step (below_new _ _), bits_new _ _ _ _ _ _ _ _ _ _⟩)
  obtain ⟨⟨b0, b1, b2, b3⟩, ⟨c0, c1, c2, c3, c4, c5, c6, c7, c8, c9, c10, c11, c12, c13, c14⟩, hbw, hsz⟩ := H2.out
  have hq1 : w.heap.size + 1 < w1.heap.size := by omega
  cases hpre : preB x.dst x.a x.b x.name x.args.length true true true false false
  · have HZ : Hid (insB r x = false) := Lib.hid (HF.out.trans (by rw [hpre]; rfl))
    have HP := Lib.hid hpre
    clear hpre HF H2 H3 HCZ HCF HIM HLT HID HTV HFR HEQ HCL
    by_cases hargs : x.args = []
    all_goals
      go_wp2_with fail
      all_goals first
        | (go_ret; exact ⟨ret_bool HZ.out.symm, below_step hbw (below_new _ _)⟩)
        | (exfalso; have hp := HP.out; clear HP HZ c0 c1 c2 c3 c4 c5 c6 c7 c8 c9 c10 c11 c12 c13 c14 b0 b1 b2 b3; have hn := toList_nil x.name; simp_all [preB]; done)
  · rw [hpre, Bool.true_and] at HF
    unfold preB at hpre
    simp only [Bool.and_eq_true] at hpre
    obtain ⟨⟨⟨⟨p0, p1⟩, p2⟩, p3⟩, p4⟩ := hpre
    have j3 : x.name.toList = [] := by rw [toList_nil]; simpa using p3
    have hargs : x.args = [] := List.eq_nil_of_length_eq_zero (by simpa using p4)
    clear p0 p1 p2 p3 p4
    rw [hargs] at HCF HIM HF
    simp only [List.length_nil] at HCF HIM
    have HFc : Hid (insB r x = (zeroC x && (x.ty.zero && (fitB r x && immF x.op x.imm n e)))) := Lib.hid HF.out
    clear HF
    have HF := HFc
    clear HFc
    go_wp2_with fail
    generalize hW3 : w1.alloc _ = w3
    obtain ⟨h3, h3b⟩ := H3.out w3 hW3.symm
    have HT := Lib.hid h3
    have HB := Lib.hid h3b
    generalize w1.heap.size = sb at *
    clear hW3 H3 H2 h3 h3b hq1
    clear b0 b1 b2 b3 c0 c1 c2 c3 c4 c5 c6 c7 c8 c9 c10 c11 c12 c13 c14 hbw hsz
    obtain ⟨⟨b0, b1, b2, b3⟩, ⟨c0, c1, c2, c3, c4, c5, c6, c7, c8, c9, c10, c11, c12, c13, c14⟩, hbw, hsz⟩ := HT.out
    obtain ⟨hsb, s0, s1, s2, s3, s4, s5, s6, s7⟩ := HB.out
    clear b0 b1 b2 b3 c0 c1 c2 c3 c4 c5 c6 c7 c8 c9 c10 c11 c12 c13 c14 hbw hsz hsb s0 s1 s2 s3 s4 s5 s6 s7
    refine (HCZ.out _).mono ?_
    rintro e4 w4 ⟨rfl, hbn⟩
    clear HCZ
    have HTn := Lib.hid (HT.out.step hbn)
    have HBn := Lib.hid (HB.out.step hbn)
    clear HT HB hbn
    have HT := HTn
    have HB := HBn
    clear HTn HBn
    obtain ⟨⟨b0, b1, b2, b3⟩, ⟨c0, c1, c2, c3, c4, c5, c6, c7, c8, c9, c10, c11, c12, c13, c14⟩, hbw, hsz⟩ := HT.out
    obtain ⟨hsb, s0, s1, s2, s3, s4, s5, s6, s7⟩ := HB.out
    rw [show isZ x.ck x.ci x.cs x.ce = zeroC x from rfl]
    cases hzc : zeroC x
    · have HZ : Hid (insB r x = false) := Lib.hid (HF.out.trans (by rw [hzc]; rfl))
      clear HF
      go_wp2_with fail
      go_ret
      exact ⟨ret_bool HZ.out.symm, hbw⟩
    rw [hzc, Bool.true_and] at HF
    clear hzc
    go_wp2_with fail
    clear b0 b1 b2 b3 c0 c1 c2 c3 c4 c5 c6 c7 c8 c9 c10 c11 c12 c13 c14 hbw hsz hsb s0 s1 s2 s3 s4 s5 s6 s7
    refine (HEQ.out _ HT.out.2.2.1).mono ?_
    rintro e5 w5 ⟨rfl, hbn⟩
    clear HEQ HTV HFR HCL
    have HTn := Lib.hid (HT.out.step hbn)
    have HBn := Lib.hid (HB.out.step hbn)
    clear HT HB hbn
    have HT := HTn
    have HB := HBn
    clear HTn HBn
    obtain ⟨⟨b0, b1, b2, b3⟩, ⟨c0, c1, c2, c3, c4, c5, c6, c7, c8, c9, c10, c11, c12, c13, c14⟩, hbw, hsz⟩ := HT.out
    obtain ⟨hsb, s0, s1, s2, s3, s4, s5, s6, s7⟩ := HB.out
    cases hzt : x.ty.zero
    · have HZ : Hid (insB r x = false) := Lib.hid (HF.out.trans (by rw [hzt]; rfl))
      clear HF
      go_wp2_with fail
      go_ret
      exact ⟨ret_bool HZ.out.symm, hbw⟩
    rw [hzt, Bool.true_and] at HF
    clear hzt
    go_wp2_with fail
    have hbw5 := hbw
    clear b0 b1 b2 b3 c0 c1 c2 c3 c4 c5 c6 c7 c8 c9 c10 c11 c12 c13 c14 hbw hsz hsb s0 s1 s2 s3 s4 s5 s6 s7
    refine (HCF.out _ hbw5).mono ?_
    rintro e7 w7 ⟨rfl, hbn⟩
    clear HCF hbw5
    have HTn := Lib.hid (HT.out.step hbn)
    have HBn := Lib.hid (HB.out.step hbn)
    clear HT HB hbn
    have HT := HTn
    have HB := HBn
    clear HTn HBn
    obtain ⟨⟨b0, b1, b2, b3⟩, ⟨c0, c1, c2, c3, c4, c5, c6, c7, c8, c9, c10, c11, c12, c13, c14⟩, hbw, hsz⟩ := HT.out
    obtain ⟨hsb, s0, s1, s2, s3, s4, s5, s6, s7⟩ := HB.out
    cases hft : fitB r x
    · have HZ : Hid (insB r x = false) := Lib.hid (HF.out.trans (by rw [hft]; rfl))
      clear HF
      go_wp2_with fail
      go_ret
      exact ⟨ret_bool HZ.out.symm, hbw⟩
    rw [hft, Bool.true_and] at HF
    clear hft
    go_wp2_with fail
    have hbw5 := hbw
    clear b0 b1 b2 b3 c0 c1 c2 c3 c4 c5 c6 c7 c8 c9 c10 c11 c12 c13 c14 hbw hsz hsb s0 s1 s2 s3 s4 s5 s6 s7
    refine (HIM.out _).mono ?_
    rintro e8 w8 ⟨rfl, hbn⟩
    have hbw := below_step hbw5 hbn
    clear hbn hbw5 HIM
    go_wp2_with fail
    go_ret
    exact ⟨ret_bool HF.out.symm, hbw⟩
set_option maxRecDepth 100000 in
set_option maxHeartbeats 16000000 in
theorem c_valid_g3 (r : Rc) (x : Ins) (u0 v : Value) (IA : Option Addr) (ic : Nat) (DA : Option Addr) (dc : Nat) (A : Option Addr) (c : Nat) (TA : Option Addr) (tc : Nat) (EA : Option Addr) (ec : Nat) (w : World) (B G : Nat)
    (hv : IsInts w B r.classes v) (hB : B ≤ w.heap.size) (hx : IsInts w B x.args (.slice A x.args.length c)) (ht : IsTy w 0 B x.ty (.agg #[.int .i64 x.ty.kind, .string x.ty.name, .int .i64 x.ty.index, .slice TA x.ty.args.length tc])) (hok : InsOk x)
    (hE : EnvS w G) (hR : EnvR w G) (hG : G ≤ w.heap.size) (hop : 1 ≤ x.op ∧ x.op ≤ 27) (qd : oD x.op = true) (qa : oA x.op = false) (qb : oB x.op x.imm = false) (qn : oN x.op = false) (ql : oL x.op = true) (qt : oT x.op = true) (qc : oC x.op = false) :
    Calls Tryz.prog 22 #[.agg #[u0, v, .slice IA r.instrs.length ic, .slice DA r.edits dc], .agg #[.int .i64 x.op, .int .i64 x.dst, .int .i64 x.a, .int .i64 x.b, .int .i64 x.imm, .string x.name, .slice A x.args.length c, .int .i64 x.ty.kind, .string x.ty.name, .int .i64 x.ty.index, .slice TA x.ty.args.length tc, .int .i64 x.ck, .int .i64 x.ci, .string x.cs, .slice EA x.ce ec]] w fun e w' => e = .returned (.bool (insB r x)) ∧ Below w.heap.size w w' := by
  have HF := Lib.hid (insB_prog r x)
  have HSH := Lib.hid (fun (W : World) (hW : Below w.heap.size w W) => c_shapeOf x.op x.imm (.int .i64 x.dst) (.int .i64 x.a) (.int .i64 x.b) (.string x.name) (.slice A x.args.length c) (.int .i64 x.ty.kind) (.string x.ty.name) (.int .i64 x.ty.index) (.slice TA x.ty.args.length tc) (.int .i64 x.ck) (.int .i64 x.ci) (.string x.cs) (.slice EA x.ce ec) W G (hE.below hW hG) (Nat.le_trans hG hW.size))
  unfold ShpR at HSH
  have HCZ := Lib.hid (fun (W : World) => c_isZero x.ck x.ci x.cs EA x.ce ec W)
  have HCF := Lib.hid (fun (W : World) (hW : Below w.heap.size w W) => c_classesFit r x u0 (.slice IA r.instrs.length ic) (.slice DA r.edits dc) v A c TA tc EA ec (.bool (oI x.op)) (.bool (oN x.op)) (.bool (oL x.op)) (.bool (oT x.op)) (.bool (oC x.op)) W B (hv.below hW hB) (Nat.le_trans hB hW.size) (hx.below hW hB) hok.alen)
  have HIM := Lib.hid (fun (W : World) => c_toFits x.op x.imm u0 v (.int .i64 x.dst) (.int .i64 x.a) (.int .i64 x.b) (.string x.name) (.slice A x.args.length c) (.int .i64 x.ty.kind) (.string x.ty.name) (.int .i64 x.ty.index) (.slice TA x.ty.args.length tc) (.int .i64 x.ck) (.int .i64 x.ci) (.string x.cs) (.slice EA x.ce ec) IA DA r.instrs.length ic r.edits dc W)
  have HLT := Lib.hid (fun (W : World) => c_isLiteral x.ck x.ci x.cs EA x.ce ec W)
  have HID := Lib.hid (fun (W : World) => c_rcIsIdent x.name W)
  have HTV := Lib.hid (fun (W : World) (hW : Below w.heap.size w W) => c_Validate x.ty W 0 B G _ (ht.below hW hB) (Nat.le_trans hB hW.size) hok.tok (Nat.le_trans hok.tsz (by omega)) (hR.below hW hG) (Nat.le_trans hG hW.size))
  have HFR := Lib.hid (fun (W : World) (hW : Below w.heap.size w W) => c_FreeVars x.ty W 0 B _ (ht.below hW hB) (Nat.le_trans hB hW.size) hok.tok hok.tsz)
  have HEQ := Lib.hid (fun (W : World) (hW : Below w.heap.size w W) => c_Equal x.ty zeroTy W 0 B 0 0 _ (.agg #[.int .i64 0, .string ⟨#[]⟩, .int .i64 0, .slice none 0 0]) (ht.below hW hB) (IsTy.mk_ (IsTyl.nil none 0)) (Nat.le_trans hB hW.size) (Nat.zero_le _) (Nat.le_trans hok.tsz (by omega)))
  rw [cmp_zeroTy] at HEQ
  have HCL : Hid ((insAll [] (x.ty.fvs 0)).length = 0 ↔ x.ty.closed 0 = true) := Lib.hid (Ty.fvs_nil_iff x.ty)
  have HTB := Lib.hid (two_boxes (w := w) (u0 := u0) (u1 := v) (u2 := .slice IA r.instrs.length ic) (u3 := .slice DA r.edits dc) (x := x) (A := A) (c := c) (TA := TA) (tc := tc) (EA := EA) (ec := ec))
  have qk : decide (1 ≤ x.op ∧ x.op ≤ 27) = true := by simpa using hop
  clear hv hB hx ht hok hE hR hG hop
  generalize r.instrs.length = n, r.edits = e at *
  generalize oD x.op = od, oA x.op = oa, oB x.op x.imm = ob, oI x.op = oi, oN x.op = on, oL x.op = ol, oT x.op = ot, oC x.op = oc, decide (1 ≤ x.op ∧ x.op ≤ 27) = okb at *
  subst qd qa qb qn ql qt qc qk
  have HFc : Hid (insB r x = (preB x.dst x.a x.b x.name x.args.length true false false false true && (zeroC x && ((decide (x.ty.validate = 0) && x.ty.closed 0) && (decide (x.args.length ≤ 6) && (fitB r x && immF x.op x.imm n e)))))) := Lib.hid HF.out
  clear HF
  have HF := HFc
  clear HFc
  go_enter Tryz.func22, Tryz.ntmps22
  go_wp2_with fail
  have HT0 := Lib.hid (HTB.out _ (Below.refl _ _))
  refine (HSH.out _ HT0.out.2.2.1).mono ?_
  rintro e' w1 ⟨rfl, hb1⟩
  have H2 := Lib.hid (HTB.out w1 hb1)
  clear HTB hb1 HSH HT0
  have H3 : Hid (∀ W, W = w1.alloc (.cells #[.bool true, .bool false, .bool false, .bool oi, .bool false, .bool true, .bool true, .bool false] 65) → Two w u0 v (.slice IA n ic) (.slice DA e dc) x A c TA tc EA ec W ∧ Bits w1.heap.size true false false oi false true true false W) := Lib.hid (fun W hW => by
    subst hW
    exact ⟨H2.out.step (below_new _ _), bits_new _ _ _ _ _ _ _ _ _ _⟩)
  obtain ⟨⟨b0, b1, b2, b3⟩, ⟨c0, c1, c2, c3, c4, c5, c6, c7, c8, c9, c10, c11, c12, c13, c14⟩, hbw, hsz⟩ := H2.out
  have hq1 : w.heap.size + 1 < w1.heap.size := by omega
  cases hpre : preB x.dst x.a x.b x.name x.args.length true false false false true
  · have HZ : Hid (insB r x = false) := Lib.hid (HF.out.trans (by rw [hpre]; rfl))
    have HP := Lib.hid hpre
    clear hpre HF H2 H3 HCZ HCF HIM HLT HID HTV HFR HEQ HCL
    go_wp2_with fail
    all_goals first
      | (go_ret; exact ⟨ret_bool HZ.out.symm, below_step hbw (below_new _ _)⟩)
      | (exfalso; have hp := HP.out; clear HP HZ c0 c1 c2 c3 c4 c5 c6 c7 c8 c9 c10 c11 c12 c13 c14 b0 b1 b2 b3; have hn := toList_nil x.name; simp_all [preB]; done)
  · rw [hpre, Bool.true_and] at HF
    unfold preB at hpre
    simp only [Bool.and_eq_true] at hpre
    obtain ⟨⟨⟨⟨p0, p1⟩, p2⟩, p3⟩, p4⟩ := hpre
    have j1 : (x.a != 0) = false ∧ (x.a == 0) = true := by simpa using p1
    obtain ⟨j1, j1'⟩ := j1
    have j2 : (x.b != 0) = false ∧ (x.b == 0) = true := by simpa using p2
    obtain ⟨j2, j2'⟩ := j2
    have j3 : x.name.toList = [] := by rw [toList_nil]; simpa using p3
    clear p0 p1 p2 p3 p4
    by_cases h6 : (6 : Int) < (x.args.length : Int)
    · have HZ : Hid (insB r x = false) := Lib.hid (by
        rw [HF.out, show decide (x.args.length ≤ 6) = false by rw [decide_eq_false_iff_not]; omega]
        simp)
      clear HF HCF HIM
      go_wp2_with fail
      generalize hW3 : w1.alloc _ = w3
      obtain ⟨h3, h3b⟩ := H3.out w3 hW3.symm
      have HT := Lib.hid h3
      have HB := Lib.hid h3b
      generalize w1.heap.size = sb at *
      clear hW3 H3 H2 h3 h3b hq1
      clear b0 b1 b2 b3 c0 c1 c2 c3 c4 c5 c6 c7 c8 c9 c10 c11 c12 c13 c14 hbw hsz
      obtain ⟨⟨b0, b1, b2, b3⟩, ⟨c0, c1, c2, c3, c4, c5, c6, c7, c8, c9, c10, c11, c12, c13, c14⟩, hbw, hsz⟩ := HT.out
      obtain ⟨hsb, s0, s1, s2, s3, s4, s5, s6, s7⟩ := HB.out
      clear b0 b1 b2 b3 c0 c1 c2 c3 c4 c5 c6 c7 c8 c9 c10 c11 c12 c13 c14 hbw hsz hsb s0 s1 s2 s3 s4 s5 s6 s7
      refine (HCZ.out _).mono ?_
      rintro e4 w4 ⟨rfl, hbn⟩
      clear HCZ
      have HTn := Lib.hid (HT.out.step hbn)
      have HBn := Lib.hid (HB.out.step hbn)
      clear HT HB hbn
      have HT := HTn
      have HB := HBn
      clear HTn HBn
      obtain ⟨⟨b0, b1, b2, b3⟩, ⟨c0, c1, c2, c3, c4, c5, c6, c7, c8, c9, c10, c11, c12, c13, c14⟩, hbw, hsz⟩ := HT.out
      obtain ⟨hsb, s0, s1, s2, s3, s4, s5, s6, s7⟩ := HB.out
      rw [show isZ x.ck x.ci x.cs x.ce = zeroC x from rfl]
      cases hzc : zeroC x
      · skip
        go_wp2_with fail
        go_ret
        exact ⟨ret_bool HZ.out.symm, hbw⟩
      clear hzc
      go_wp2_with fail
      clear b0 b1 b2 b3 c0 c1 c2 c3 c4 c5 c6 c7 c8 c9 c10 c11 c12 c13 c14 hbw hsz hsb s0 s1 s2 s3 s4 s5 s6 s7
      refine (HTV.out _ HT.out.2.2.1).mono ?_
      rintro e5 w5 ⟨rfl, hbn⟩
      clear HTV HEQ
      have HTn := Lib.hid (HT.out.step hbn)
      have HBn := Lib.hid (HB.out.step hbn)
      clear HT HB hbn
      have HT := HTn
      have HB := HBn
      clear HTn HBn
      obtain ⟨⟨b0, b1, b2, b3⟩, ⟨c0, c1, c2, c3, c4, c5, c6, c7, c8, c9, c10, c11, c12, c13, c14⟩, hbw, hsz⟩ := HT.out
      obtain ⟨hsb, s0, s1, s2, s3, s4, s5, s6, s7⟩ := HB.out
      by_cases hval : x.ty.validate = 0
      rotate_left
      · have kval := beq_f hval
        have kval2 := neb_f hval
        clear hval
        generalize x.ty.validate = vl at *
        go_wp2_with fail
        go_ret
        exact ⟨ret_bool HZ.out.symm, hbw⟩
      rw [hval]
      clear hval
      go_wp2_with fail
      refine (HFR.out _ HT.out.2.2.1).mono ?_
      rintro e6 w6 ⟨v1, rfl, ⟨A1, c1', rfl, _⟩, hbn⟩
      clear HFR
      clear b0 b1 b2 b3 c0 c1 c2 c3 c4 c5 c6 c7 c8 c9 c10 c11 c12 c13 c14 hbw hsz hsb s0 s1 s2 s3 s4 s5 s6 s7
      have HTn := Lib.hid (HT.out.step hbn)
      have HBn := Lib.hid (HB.out.step hbn)
      clear HT HB hbn
      have HT := HTn
      have HB := HBn
      clear HTn HBn
      obtain ⟨⟨b0, b1, b2, b3⟩, ⟨c0, c1, c2, c3, c4, c5, c6, c7, c8, c9, c10, c11, c12, c13, c14⟩, hbw, hsz⟩ := HT.out
      obtain ⟨hsb, s0, s1, s2, s3, s4, s5, s6, s7⟩ := HB.out
      generalize (insAll [] (x.ty.fvs 0)).length = m at *
      cases hcl : x.ty.closed 0
      · have hm : 0 < m := Nat.pos_of_ne_zero (fun h => by have := HCL.out.1 h; rw [hcl] at this; cases this)
        have hm1 : (0 : Int) < (m : Int) := by omega
        clear hcl HCL hm
        go_wp2_with fail
        go_ret
        exact ⟨ret_bool HZ.out.symm, hbw⟩
      obtain rfl : m = 0 := HCL.out.2 hcl
      clear hcl HCL
      go_wp2_with fail
      go_ret
      exact ⟨ret_bool HZ.out.symm, hbw⟩
    · rw [show decide (x.args.length ≤ 6) = true by rw [decide_eq_true_eq]; omega, Bool.true_and] at HF
      go_wp2_with fail
      generalize hW3 : w1.alloc _ = w3
      obtain ⟨h3, h3b⟩ := H3.out w3 hW3.symm
      have HT := Lib.hid h3
      have HB := Lib.hid h3b
      generalize w1.heap.size = sb at *
      clear hW3 H3 H2 h3 h3b hq1
      clear b0 b1 b2 b3 c0 c1 c2 c3 c4 c5 c6 c7 c8 c9 c10 c11 c12 c13 c14 hbw hsz
      obtain ⟨⟨b0, b1, b2, b3⟩, ⟨c0, c1, c2, c3, c4, c5, c6, c7, c8, c9, c10, c11, c12, c13, c14⟩, hbw, hsz⟩ := HT.out
      obtain ⟨hsb, s0, s1, s2, s3, s4, s5, s6, s7⟩ := HB.out
      clear b0 b1 b2 b3 c0 c1 c2 c3 c4 c5 c6 c7 c8 c9 c10 c11 c12 c13 c14 hbw hsz hsb s0 s1 s2 s3 s4 s5 s6 s7
      refine (HCZ.out _).mono ?_
      rintro e4 w4 ⟨rfl, hbn⟩
      clear HCZ
      have HTn := Lib.hid (HT.out.step hbn)
      have HBn := Lib.hid (HB.out.step hbn)
      clear HT HB hbn
      have HT := HTn
      have HB := HBn
      clear HTn HBn
      obtain ⟨⟨b0, b1, b2, b3⟩, ⟨c0, c1, c2, c3, c4, c5, c6, c7, c8, c9, c10, c11, c12, c13, c14⟩, hbw, hsz⟩ := HT.out
      obtain ⟨hsb, s0, s1, s2, s3, s4, s5, s6, s7⟩ := HB.out
      rw [show isZ x.ck x.ci x.cs x.ce = zeroC x from rfl]
      cases hzc : zeroC x
      · have HZ : Hid (insB r x = false) := Lib.hid (HF.out.trans (by rw [hzc]; rfl))
        clear HF
        go_wp2_with fail
        go_ret
        exact ⟨ret_bool HZ.out.symm, hbw⟩
      rw [hzc, Bool.true_and] at HF
      clear hzc
      go_wp2_with fail
      clear b0 b1 b2 b3 c0 c1 c2 c3 c4 c5 c6 c7 c8 c9 c10 c11 c12 c13 c14 hbw hsz hsb s0 s1 s2 s3 s4 s5 s6 s7
      refine (HTV.out _ HT.out.2.2.1).mono ?_
      rintro e5 w5 ⟨rfl, hbn⟩
      clear HTV HEQ
      have HTn := Lib.hid (HT.out.step hbn)
      have HBn := Lib.hid (HB.out.step hbn)
      clear HT HB hbn
      have HT := HTn
      have HB := HBn
      clear HTn HBn
      obtain ⟨⟨b0, b1, b2, b3⟩, ⟨c0, c1, c2, c3, c4, c5, c6, c7, c8, c9, c10, c11, c12, c13, c14⟩, hbw, hsz⟩ := HT.out
      obtain ⟨hsb, s0, s1, s2, s3, s4, s5, s6, s7⟩ := HB.out
      by_cases hval : x.ty.validate = 0
      rotate_left
      · have kval := beq_f hval
        have kval2 := neb_f hval
        have HZ : Hid (insB r x = false) := Lib.hid (HF.out.trans (by rw [show decide (x.ty.validate = 0) = false by rw [decide_eq_false_iff_not]; exact hval]; rfl))
        clear HF hval
        generalize x.ty.validate = vl at *
        go_wp2_with fail
        go_ret
        exact ⟨ret_bool HZ.out.symm, hbw⟩
      rw [hval] at HF
      rw [hval]
      clear hval
      rw [show decide ((0 : Int) = 0) = true from rfl, Bool.true_and] at HF
      go_wp2_with fail
      refine (HFR.out _ HT.out.2.2.1).mono ?_
      rintro e6 w6 ⟨v1, rfl, ⟨A1, c1', rfl, _⟩, hbn⟩
      clear HFR
      clear b0 b1 b2 b3 c0 c1 c2 c3 c4 c5 c6 c7 c8 c9 c10 c11 c12 c13 c14 hbw hsz hsb s0 s1 s2 s3 s4 s5 s6 s7
      have HTn := Lib.hid (HT.out.step hbn)
      have HBn := Lib.hid (HB.out.step hbn)
      clear HT HB hbn
      have HT := HTn
      have HB := HBn
      clear HTn HBn
      obtain ⟨⟨b0, b1, b2, b3⟩, ⟨c0, c1, c2, c3, c4, c5, c6, c7, c8, c9, c10, c11, c12, c13, c14⟩, hbw, hsz⟩ := HT.out
      obtain ⟨hsb, s0, s1, s2, s3, s4, s5, s6, s7⟩ := HB.out
      generalize (insAll [] (x.ty.fvs 0)).length = m at *
      cases hcl : x.ty.closed 0
      · have hm : 0 < m := Nat.pos_of_ne_zero (fun h => by have := HCL.out.1 h; rw [hcl] at this; cases this)
        have hm1 : (0 : Int) < (m : Int) := by omega
        have HZ : Hid (insB r x = false) := Lib.hid (HF.out.trans (by rw [hcl]; rfl))
        clear HF hcl HCL hm
        go_wp2_with fail
        go_ret
        exact ⟨ret_bool HZ.out.symm, hbw⟩
      obtain rfl : m = 0 := HCL.out.2 hcl
      rw [hcl, Bool.true_and] at HF
      clear hcl HCL
      go_wp2_with fail
      have hbw5 := hbw
      clear b0 b1 b2 b3 c0 c1 c2 c3 c4 c5 c6 c7 c8 c9 c10 c11 c12 c13 c14 hbw hsz hsb s0 s1 s2 s3 s4 s5 s6 s7
      refine (HCF.out _ hbw5).mono ?_
      rintro e7 w7 ⟨rfl, hbn⟩
      clear HCF hbw5
      have HTn := Lib.hid (HT.out.step hbn)
      have HBn := Lib.hid (HB.out.step hbn)
      clear HT HB hbn
      have HT := HTn
      have HB := HBn
      clear HTn HBn
      obtain ⟨⟨b0, b1, b2, b3⟩, ⟨c0, c1, c2, c3, c4, c5, c6, c7, c8, c9, c10, c11, c12, c13, c14⟩, hbw, hsz⟩ := HT.out
      obtain ⟨hsb, s0, s1, s2, s3, s4, s5, s6, s7⟩ := HB.out
      cases hft : fitB r x
      · have HZ : Hid (insB r x = false) := Lib.hid (HF.out.trans (by rw [hft]; rfl))
        clear HF
        go_wp2_with fail
        go_ret
        exact ⟨ret_bool HZ.out.symm, hbw⟩
      rw [hft, Bool.true_and] at HF
      clear hft
      go_wp2_with fail
      have hbw5 := hbw
      clear b0 b1 b2 b3 c0 c1 c2 c3 c4 c5 c6 c7 c8 c9 c10 c11 c12 c13 c14 hbw hsz hsb s0 s1 s2 s3 s4 s5 s6 s7
      refine (HIM.out _).mono ?_
      rintro e8 w8 ⟨rfl, hbn⟩
      have hbw := below_step hbw5 hbn
      clear hbn hbw5 HIM
      go_wp2_with fail
      go_ret
      exact ⟨ret_bool HF.out.symm, hbw⟩
end Go.Proofs.YtdjldmpfginkdaaGreatDoor
