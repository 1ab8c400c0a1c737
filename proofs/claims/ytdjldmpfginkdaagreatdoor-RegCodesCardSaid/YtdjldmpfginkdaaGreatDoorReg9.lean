/- Contract of telref25.classesFit. -/
import Derived.Test.YtdjldmpfginkdaaGreatDoorGRegD
namespace Go.Proofs.YtdjldmpfginkdaaGreatDoor
open Go.RowKit
attribute [local go_sem ↓] Go.wp_at_zero Go.wp_at_succ

theorem cls_range {r : Rc} (h : ∀ c ∈ r.classes, 0 ≤ c ∧ c ≤ 2) (n : Int) : -1 ≤ r.cls n ∧ r.cls n ≤ 2 := by
  unfold Rc.cls clsAt
  split
  · omega
  · cases hq : r.classes[n.toNat]? with
    | none => simp
    | some c => have := h c (List.mem_of_getElem? hq); simp; omega

set_option maxRecDepth 100000 in
set_option maxHeartbeats 8000000 in
theorem c_classesFit25 (r : Rc) (x : Ins) (u0 u2 u3 v : Value) (A : Option Addr) (c : Nat) (TA : Option Addr) (tc : Nat) (EA : Option Addr) (ec : Nat) (w : World) (B : Nat)
    (hv : IsInts w B r.classes v) (hB : B ≤ w.heap.size) (hx : IsInts w B x.args (.slice A x.args.length c)) (hla : x.args.length ≤ 2 ^ 40) (hcl : ∀ c ∈ r.classes, 0 ≤ c ∧ c ≤ 2) :
    Calls Tryz.prog 50 #[.agg #[u0, v, u2, u3], .agg #[.int .i64 x.op, .int .i64 x.dst, .int .i64 x.a, .int .i64 x.b, .int .i64 x.imm, .string x.name, .slice A x.args.length c, .int .i64 x.ty.kind, .string x.ty.name, .int .i64 x.ty.index, .slice TA x.ty.args.length tc, .int .i64 x.ck, .int .i64 x.ci, .string x.cs, .slice EA x.ce ec]] w fun e w' => e = .returned (.bool (fitB r x)) ∧ Below w.heap.size w w' := by
  have HF := Lib.hid (fitB_eq r x)
  have HV := Lib.hid hv
  have HX := Lib.hid hx
  clear hv hx
  have HC := Lib.hid (fun (n : Int) (W : World) (hW : Below w.heap.size w W) => c_classOf25 u0 u2 u3 v r.classes n W B (HV.out.below hW hB) (Nat.le_trans hB hW.size))
  have HW : Hid (∀ W W' : World, W = (w.alloc (.cells #[u0, v, u2, u3] 26)).alloc (.cells #[.int .i64 x.op, .int .i64 x.dst, .int .i64 x.a, .int .i64 x.b, .int .i64 x.imm, .string x.name, .slice A x.args.length c, .int .i64 x.ty.kind, .string x.ty.name, .int .i64 x.ty.index, .slice TA x.ty.args.length tc, .int .i64 x.ck, .int .i64 x.ci, .string x.cs, .slice EA x.ce ec] 38) → Below W.heap.size W W' →
      (W'.cell? ⟨w.heap.size, 0, none⟩ = some (u0) ∧ W'.cell? ⟨w.heap.size, 1, none⟩ = some (v) ∧ W'.cell? ⟨w.heap.size, 2, none⟩ = some (u2) ∧ W'.cell? ⟨w.heap.size, 3, none⟩ = some (u3)) ∧ (W'.cell? ⟨w.heap.size + 1, 0, none⟩ = some (.int .i64 x.op) ∧ W'.cell? ⟨w.heap.size + 1, 1, none⟩ = some (.int .i64 x.dst) ∧ W'.cell? ⟨w.heap.size + 1, 2, none⟩ = some (.int .i64 x.a) ∧ W'.cell? ⟨w.heap.size + 1, 3, none⟩ = some (.int .i64 x.b) ∧ W'.cell? ⟨w.heap.size + 1, 4, none⟩ = some (.int .i64 x.imm) ∧ W'.cell? ⟨w.heap.size + 1, 5, none⟩ = some (.string x.name) ∧ W'.cell? ⟨w.heap.size + 1, 6, none⟩ = some (.slice A x.args.length c) ∧ W'.cell? ⟨w.heap.size + 1, 7, none⟩ = some (.int .i64 x.ty.kind) ∧ W'.cell? ⟨w.heap.size + 1, 8, none⟩ = some (.string x.ty.name) ∧ W'.cell? ⟨w.heap.size + 1, 9, none⟩ = some (.int .i64 x.ty.index) ∧ W'.cell? ⟨w.heap.size + 1, 10, none⟩ = some (.slice TA x.ty.args.length tc) ∧ W'.cell? ⟨w.heap.size + 1, 11, none⟩ = some (.int .i64 x.ck) ∧ W'.cell? ⟨w.heap.size + 1, 12, none⟩ = some (.int .i64 x.ci) ∧ W'.cell? ⟨w.heap.size + 1, 13, none⟩ = some (.string x.cs) ∧ W'.cell? ⟨w.heap.size + 1, 14, none⟩ = some (.slice EA x.ce ec)) ∧ Below w.heap.size w W' ∧ w.heap.size + 2 ≤ W'.heap.size) := Lib.hid (fun W W' hW hb => by
    have hs : W.heap.size = w.heap.size + 2 := by subst hW; simp
    have h1 : W.heap[w.heap.size]? = some (.cells #[u0, v, u2, u3] 26) := by subst hW; exact blk_old (blk_new _ _)
    have h2 : W.heap[w.heap.size + 1]? = some (.cells #[.int .i64 x.op, .int .i64 x.dst, .int .i64 x.a, .int .i64 x.b, .int .i64 x.imm, .string x.name, .slice A x.args.length c, .int .i64 x.ty.kind, .string x.ty.name, .int .i64 x.ty.index, .slice TA x.ty.args.length tc, .int .i64 x.ck, .int .i64 x.ci, .string x.cs, .slice EA x.ce ec] 38) := by subst hW; exact blk_new2 _ _ _
    have hbw : Below w.heap.size w W := by subst hW; exact below_step (below_new _ _) (below_new _ _)
    have hc : ∀ (b i : Nat), b < W.heap.size → W'.cell? ⟨b, i, none⟩ = W.cell? ⟨b, i, none⟩ := fun b i hb' => hb.cell (p := ⟨b, i, none⟩) hb'
    have hsz := hb.size
    refine ⟨⟨?_, ?_, ?_, ?_⟩, ⟨?_, ?_, ?_, ?_, ?_, ?_, ?_, ?_, ?_, ?_, ?_, ?_, ?_, ?_, ?_⟩, below_step hbw hb, by omega⟩
    · rw [hc _ _ (by omega), cell_of_row _ w.heap.size _ _ _ _ h1]; rfl
    · rw [hc _ _ (by omega), cell_of_row _ w.heap.size _ _ _ _ h1]; rfl
    · rw [hc _ _ (by omega), cell_of_row _ w.heap.size _ _ _ _ h1]; rfl
    · rw [hc _ _ (by omega), cell_of_row _ w.heap.size _ _ _ _ h1]; rfl
    · rw [hc _ _ (by omega), cell_of_row _ (w.heap.size + 1) _ _ _ _ h2]; rfl
    · rw [hc _ _ (by omega), cell_of_row _ (w.heap.size + 1) _ _ _ _ h2]; rfl
    · rw [hc _ _ (by omega), cell_of_row _ (w.heap.size + 1) _ _ _ _ h2]; rfl
    · rw [hc _ _ (by omega), cell_of_row _ (w.heap.size + 1) _ _ _ _ h2]; rfl
    · rw [hc _ _ (by omega), cell_of_row _ (w.heap.size + 1) _ _ _ _ h2]; rfl
    · rw [hc _ _ (by omega), cell_of_row _ (w.heap.size + 1) _ _ _ _ h2]; rfl
    · rw [hc _ _ (by omega), cell_of_row _ (w.heap.size + 1) _ _ _ _ h2]; rfl
    · rw [hc _ _ (by omega), cell_of_row _ (w.heap.size + 1) _ _ _ _ h2]; rfl
    · rw [hc _ _ (by omega), cell_of_row _ (w.heap.size + 1) _ _ _ _ h2]; rfl
    · rw [hc _ _ (by omega), cell_of_row _ (w.heap.size + 1) _ _ _ _ h2]; rfl
    · rw [hc _ _ (by omega), cell_of_row _ (w.heap.size + 1) _ _ _ _ h2]; rfl
    · rw [hc _ _ (by omega), cell_of_row _ (w.heap.size + 1) _ _ _ _ h2]; rfl
    · rw [hc _ _ (by omega), cell_of_row _ (w.heap.size + 1) _ _ _ _ h2]; rfl
    · rw [hc _ _ (by omega), cell_of_row _ (w.heap.size + 1) _ _ _ _ h2]; rfl
    · rw [hc _ _ (by omega), cell_of_row _ (w.heap.size + 1) _ _ _ _ h2]; rfl)
  have HAT := Lib.hid (fun (j : Nat) (hj : j < x.args.length) => allTo r x.args j hj)
  have HAE := Lib.hid (allEnd r x.args)
  go_enter Tryz.func50, Tryz.ntmps50
  go_wp2
  generalize hWW : (w.alloc _).alloc _ = W
  have HK := Lib.hid (fun W' => HW.out W W' hWW.symm)
  clear hWW HW
  obtain ⟨⟨b0, b1, b2, b3⟩, ⟨c0, c1, c2, c3, c4, c5, c6, c7, c8, c9, c10, c11, c12, c13, c14⟩, hbw, hsz⟩ := HK.out W (Below.refl _ _)
  refine wp_region_ord (fun W' : World => Below w.heap.size w W' ∧ (W'.cell? ⟨w.heap.size, 0, none⟩ = some (u0) ∧ W'.cell? ⟨w.heap.size, 1, none⟩ = some (v) ∧ W'.cell? ⟨w.heap.size, 2, none⟩ = some (u2) ∧ W'.cell? ⟨w.heap.size, 3, none⟩ = some (u3)) ∧ (W'.cell? ⟨w.heap.size + 1, 0, none⟩ = some (.int .i64 x.op) ∧ W'.cell? ⟨w.heap.size + 1, 1, none⟩ = some (.int .i64 x.dst) ∧ W'.cell? ⟨w.heap.size + 1, 2, none⟩ = some (.int .i64 x.a) ∧ W'.cell? ⟨w.heap.size + 1, 3, none⟩ = some (.int .i64 x.b))) 12 [(0, true), (1, true), (2, true), (4, true), (5, true), (6, true), (8, true), (9, true), (10, true), (3, false), (7, false), (11, false)] (by kernel_rfl) (by kernel_rfl) (⟨hbw.drew, ⟨b0, b1, b2, b3⟩, c0, c1, c2, c3⟩) (fun hHeld => ?_)
  simp only [pickOps, List.getElem?_cons_succ, List.getElem?_cons_zero, List.drop_succ_cons, List.drop_zero]
  iterate 9 (refine wpOrd_take (v := ?_) (fun _ _ _ h => h) (Or.inl ⟨by rfl, ?_⟩) (by assumption) ?_; rotate_left; (focus (intro w hSw; (try dsimp only at hSw); go_simp; (try with_reducible rfl))); (try simp only [Act.put, List.setIfInBounds_toArray, List.set_cons_zero, List.set_cons_succ]))
  refine wpOrd_do (fun K hK => ?_)
  go_simp
  go_at_call 71
  refine (HC.out x.dst _ hbw.drew).mono ?_
  rintro e w1 ⟨rfl, hb1⟩
  have hB1 := Lib.hid (below_step (below_drew W) hb1)
  have hW1 := (HK.out w1 hB1.out).2.2.1
  clear hb1
  refine hK.out _ _ (⟨hW1, (HK.out w1 hB1.out).1, (HK.out w1 hB1.out).2.1.1, (HK.out w1 hB1.out).2.1.2.1, (HK.out w1 hB1.out).2.1.2.2.1, (HK.out w1 hB1.out).2.1.2.2.2.1⟩) (fun hHeld => ?_)
  clear hK K
  (try simp only [Act.put, List.setIfInBounds_toArray, List.set_cons_zero, List.set_cons_succ])
  refine wpOrd_do (fun K hK => ?_)
  go_simp
  go_at_call 71
  refine (HC.out x.a _ hW1).mono ?_
  rintro e w2 ⟨rfl, hb2⟩
  have hB2 := Lib.hid (below_step hB1.out hb2)
  have hW2 := (HK.out w2 hB2.out).2.2.1
  clear hb2
  refine hK.out _ _ (⟨hW2, (HK.out w2 hB2.out).1, (HK.out w2 hB2.out).2.1.1, (HK.out w2 hB2.out).2.1.2.1, (HK.out w2 hB2.out).2.1.2.2.1, (HK.out w2 hB2.out).2.1.2.2.2.1⟩) (fun hHeld => ?_)
  clear hK K
  (try simp only [Act.put, List.setIfInBounds_toArray, List.set_cons_zero, List.set_cons_succ])
  refine wpOrd_do (fun K hK => ?_)
  go_simp
  go_at_call 71
  refine (HC.out x.b _ hW2).mono ?_
  rintro e w3 ⟨rfl, hb3⟩
  have hB3 := Lib.hid (below_step hB2.out hb3)
  have hW3 := (HK.out w3 hB3.out).2.2.1
  clear hb3
  refine hK.out _ _ (⟨hW3, (HK.out w3 hB3.out).1, (HK.out w3 hB3.out).2.1.1, (HK.out w3 hB3.out).2.1.2.1, (HK.out w3 hB3.out).2.1.2.2.1, (HK.out w3 hB3.out).2.1.2.2.2.1⟩) (fun hHeld => ?_)
  clear hK K
  (try simp only [Act.put, List.setIfInBounds_toArray, List.set_cons_zero, List.set_cons_succ])
  refine wpOrd_end ?_
  clear b0 b1 b2 b3 c0 c1 c2 c3 c4 c5 c6 c7 c8 c9 c10 c11 c12 c13 c14 hbw hsz hW1 hW2 hHeld
  obtain ⟨⟨b0, b1, b2, b3⟩, ⟨c0, c1, c2, c3, c4, c5, c6, c7, c8, c9, c10, c11, c12, c13, c14⟩, hbw, hsz⟩ := HK.out w3 hB3.out
  rw [show clsAt r.classes x.dst = r.cls x.dst from rfl, show clsAt r.classes x.a = r.cls x.a from rfl, show clsAt r.classes x.b = r.cls x.b from rfl]
  clear hW3 HK hB1 hB2 hB3
  have hrd := cls_range hcl x.dst
  have hra := cls_range hcl x.a
  clear hcl
  generalize r.cls x.dst = d, r.cls x.a = a, r.cls x.b = b at *
  generalize x.op = op, x.ck = ck at *
  by_cases h1 : op = 1
  case pos =>
    subst h1
    go_wp2
    all_goals
      go_ret
      refine ⟨ret_bool ?_, hbw⟩
      rw [HF.out]
      clear HF HX HV HC HAT HAE hbw b0 b1 b2 b3 c0 c1 c2 c3 c4 c5 c6 c7 c8 c9 c10 c11 c12 c13 c14
      simp_all [fitE]
      try (first | omega | (rw [Bool.eq_iff_iff]; simp; try omega))
  have k1 := beq_f h1
  by_cases h2 : op = 2
  case pos =>
    subst h2
    go_wp2
    all_goals
      go_ret
      refine ⟨ret_bool ?_, hbw⟩
      rw [HF.out]
      clear HF HX HV HC HAT HAE hbw b0 b1 b2 b3 c0 c1 c2 c3 c4 c5 c6 c7 c8 c9 c10 c11 c12 c13 c14
      simp_all [fitE]
      try (first | omega | (rw [Bool.eq_iff_iff]; simp; try omega))
  have k2 := beq_f h2
  by_cases h3 : op = 3
  case pos =>
    subst h3
    go_wp2
    all_goals
      go_ret
      refine ⟨ret_bool ?_, hbw⟩
      rw [HF.out]
      clear HF HX HV HC HAT HAE hbw b0 b1 b2 b3 c0 c1 c2 c3 c4 c5 c6 c7 c8 c9 c10 c11 c12 c13 c14
      simp_all [fitE]
      try (first | omega | (rw [Bool.eq_iff_iff]; simp; try omega))
  have k3 := beq_f h3
  by_cases h4 : op = 4
  case pos =>
    subst h4
    go_wp2
    all_goals
      go_ret
      refine ⟨ret_bool ?_, hbw⟩
      rw [HF.out]
      clear HF HX HV HC HAT HAE hbw b0 b1 b2 b3 c0 c1 c2 c3 c4 c5 c6 c7 c8 c9 c10 c11 c12 c13 c14
      simp_all [fitE]
      try (first | omega | (rw [Bool.eq_iff_iff]; simp; try omega))
  have k4 := beq_f h4
  by_cases h5 : op = 5
  case pos =>
    subst h5
    go_wp2
    all_goals
      go_ret
      refine ⟨ret_bool ?_, hbw⟩
      rw [HF.out]
      clear HF HX HV HC HAT HAE hbw b0 b1 b2 b3 c0 c1 c2 c3 c4 c5 c6 c7 c8 c9 c10 c11 c12 c13 c14
      simp_all [fitE]
      try (first | omega | (rw [Bool.eq_iff_iff]; simp; try omega))
  have k5 := beq_f h5
  by_cases h6 : op = 6
  case pos =>
    subst h6
    go_wp2
    all_goals
      go_ret
      refine ⟨ret_bool ?_, hbw⟩
      rw [HF.out]
      clear HF HX HV HC HAT HAE hbw b0 b1 b2 b3 c0 c1 c2 c3 c4 c5 c6 c7 c8 c9 c10 c11 c12 c13 c14
      simp_all [fitE]
      try (first | omega | (rw [Bool.eq_iff_iff]; simp; try omega))
  have k6 := beq_f h6
  by_cases h7 : op = 7
  case pos =>
    subst h7
    go_wp2
    all_goals
      go_ret
      refine ⟨ret_bool ?_, hbw⟩
      rw [HF.out]
      clear HF HX HV HC HAT HAE hbw b0 b1 b2 b3 c0 c1 c2 c3 c4 c5 c6 c7 c8 c9 c10 c11 c12 c13 c14
      simp_all [fitE]
      try (first | omega | (rw [Bool.eq_iff_iff]; simp; try omega))
  have k7 := beq_f h7
  by_cases h14 : op = 14
  case pos =>
    subst h14
    go_wp2
    all_goals
      go_ret
      refine ⟨ret_bool ?_, hbw⟩
      rw [HF.out]
      clear HF HX HV HC HAT HAE hbw b0 b1 b2 b3 c0 c1 c2 c3 c4 c5 c6 c7 c8 c9 c10 c11 c12 c13 c14
      simp_all [fitE]
      try (first | omega | (rw [Bool.eq_iff_iff]; simp; try omega))
  have k14 := beq_f h14
  by_cases h18 : op = 18
  case pos =>
    subst h18
    go_wp2
    all_goals
      go_ret
      refine ⟨ret_bool ?_, hbw⟩
      rw [HF.out]
      clear HF HX HV HC HAT HAE hbw b0 b1 b2 b3 c0 c1 c2 c3 c4 c5 c6 c7 c8 c9 c10 c11 c12 c13 c14
      simp_all [fitE]
      try (first | omega | (rw [Bool.eq_iff_iff]; simp; try omega))
  have k18 := beq_f h18
  have HZ : Hid (fitB r x = (x.args.all (fun n => decide (r.cls n = 0)) && ((!oD op || decide (d = 0)) && (!oA op || decide (a = 0)) && (!oB op x.imm || decide (b = 0))))) := Lib.hid (by
    rw [HF.out]
    simp [fitE, *])
  clear HF
  have HFL := Lib.hid (fun (W : World) => c_fieldsOf op x.imm (.int .i64 x.dst) (.int .i64 x.a) (.int .i64 x.b) (.string x.name) (.slice A x.args.length c) (.int .i64 x.ty.kind) (.string x.ty.name) (.int .i64 x.ty.index) (.slice TA x.ty.args.length tc) (.int .i64 ck) (.int .i64 x.ci) (.string x.cs) (.slice EA x.ce ec) W)
  unfold FldR at HFL
  generalize oD op = od, oA op = oa, oB op x.imm = ob, oI op = oi, oN op = on, oL op = ol, oT op = ot, oC op = oc at *
  generalize x.args = args at *
  generalize hn : args.length = n at HX c6 hla HFL
  have Hn := Lib.hid hn
  clear hn
  go_wp2_with fail
  refine (HFL.out _).mono ?_
  rintro e w4 ⟨rfl, hb4⟩
  have HS4 : Hid (∀ W, W = w4.alloc (.cells #[.bool od, .bool oa, .bool ob, .bool oi, .bool on, .bool ol, .bool ot, .bool oc] 79) → (W.cell? ⟨w.heap.size, 0, none⟩ = some (u0) ∧ W.cell? ⟨w.heap.size, 1, none⟩ = some (v) ∧ W.cell? ⟨w.heap.size, 2, none⟩ = some (u2) ∧ W.cell? ⟨w.heap.size, 3, none⟩ = some (u3)) ∧ W.cell? ⟨w.heap.size + 1, 6, none⟩ = some (.slice A n c) ∧ (W.cell? ⟨w4.heap.size, 0, none⟩ = some (.bool od) ∧ W.cell? ⟨w4.heap.size, 1, none⟩ = some (.bool oa) ∧ W.cell? ⟨w4.heap.size, 2, none⟩ = some (.bool ob)) ∧ Below w.heap.size w W ∧ w4.heap.size < W.heap.size) := Lib.hid (fun W hW => by
    subst hW
    have hs := hb4.size
    have hc : ∀ (b i : Nat), b < w3.heap.size → (w4.alloc (.cells #[.bool od, .bool oa, .bool ob, .bool oi, .bool on, .bool ol, .bool ot, .bool oc] 79)).cell? ⟨b, i, none⟩ = w3.cell? ⟨b, i, none⟩ := fun b i hb' => (below_step hb4 (below_new _ _)).cell (p := ⟨b, i, none⟩) hb'
    refine ⟨⟨(hc _ _ (by omega)).trans b0, (hc _ _ (by omega)).trans b1, (hc _ _ (by omega)).trans b2, (hc _ _ (by omega)).trans b3⟩, (hc _ _ (by omega)).trans c6, ⟨?_, ?_, ?_⟩, below_step (below_step hbw hb4) (below_new _ _), by simp⟩
    · rw [cell_of_row _ w4.heap.size _ _ _ _ (blk_new _ _)]; rfl
    · rw [cell_of_row _ w4.heap.size _ _ _ _ (blk_new _ _)]; rfl
    · rw [cell_of_row _ w4.heap.size _ _ _ _ (blk_new _ _)]; rfl)
  have hz4 := hb4.size
  have hz3 : w.heap.size + 2 ≤ w4.heap.size := Nat.le_trans hsz hz4
  clear b0 b1 b2 b3 c0 c1 c2 c3 c4 c5 c6 c7 c8 c9 c10 c11 c12 c13 c14 hbw hsz hb4 hz4 HFL
  go_wp2
  generalize hW5 : w4.alloc _ = w5
  generalize w4.heap.size = sb at *
  obtain ⟨⟨b0, b1, b2, b3⟩, c6, ⟨s0, s1, s2⟩, hbw, hsz⟩ := HS4.out w5 hW5.symm
  clear hW5 HS4
  go_loopw [9] (fun s wr => ∃ j : Nat, j ≤ n ∧ s = .int .i64 j ∧ Hid (∀ (i : Nat) (hi : i < args.length), i < j → r.cls args[i] = 0) ∧ (wr.cell? ⟨w.heap.size, 0, none⟩ = some (u0) ∧ wr.cell? ⟨w.heap.size, 1, none⟩ = some (v) ∧ wr.cell? ⟨w.heap.size, 2, none⟩ = some (u2) ∧ wr.cell? ⟨w.heap.size, 3, none⟩ = some (u3)) ∧ wr.cell? ⟨w.heap.size + 1, 6, none⟩ = some (.slice A n c) ∧ (wr.cell? ⟨sb, 0, none⟩ = some (.bool od) ∧ wr.cell? ⟨sb, 1, none⟩ = some (.bool oa) ∧ wr.cell? ⟨sb, 2, none⟩ = some (.bool ob)) ∧ Below w.heap.size w wr ∧ sb < wr.heap.size) (fun s _ => n - (intOf s).toNat)
  case atStart => exact ⟨0, by omega, rfl, Lib.hid (fun _ _ h => by omega), ⟨b0, b1, b2, b3⟩, c6, ⟨s0, s1, s2⟩, hbw, hsz⟩
  case round =>
    clear b0 b1 b2 b3 s0 s1 s2 hbw hsz c6 k1 k2 k3 k4 k5 k6 k7 k14 k18
    obtain ⟨j, hj, rfl, HS, ⟨b0, b1, b2, b3⟩, c6, ⟨s0, s1, s2⟩, hbw, hsz⟩ := hrel
    by_cases hjn : j < n
    · obtain ⟨g, o, hj', rfl, hg, hc⟩ := HX.out.at_ (fun b hb => hbw.block b (by omega)) hjn
      have hj0 : (0 : Int) ≤ (j : Int) := by omega
      have hj1 : (j : Int) < (n : Int) := by omega
      have HA := Lib.hid (HAT.out j hj')
      have HN : Hid (r.cls args[j] = 0 → ∀ (i : Nat) (hi : i < args.length), i < j + 1 → r.cls args[i] = 0) := Lib.hid (fun h i hi hij => by
        rcases Nat.lt_or_ge i j with h1 | h1
        · exact HS.out i hi h1
        · obtain rfl : i = j := by omega
          exact h)
      generalize args[j] = q at *
      have hcd : wr.drew.cell? ⟨g, o + j, none⟩ = some (.int .i64 q) := hc
      go_wp2
      refine wp_region_ord (fun W' : World => Below w.heap.size w W' ∧ (W'.cell? ⟨w.heap.size, 0, none⟩ = some (u0) ∧ W'.cell? ⟨w.heap.size, 1, none⟩ = some (v) ∧ W'.cell? ⟨w.heap.size, 2, none⟩ = some (u2) ∧ W'.cell? ⟨w.heap.size, 3, none⟩ = some (u3)) ∧ W'.cell? ⟨w.heap.size + 1, 6, none⟩ = some (.slice (some ⟨g, o, none⟩) n c) ∧ W'.cell? ⟨g, o + j, none⟩ = some (.int .i64 q)) 7 [(0, true), (1, true), (2, true), (3, true), (4, true), (5, true), (6, false)] (by kernel_rfl) (by kernel_rfl) (⟨hbw.drew, ⟨b0, b1, b2, b3⟩, c6, hcd⟩) (fun hHeld => ?_)
      simp only [pickOps, List.getElem?_cons_succ, List.getElem?_cons_zero, List.drop_succ_cons, List.drop_zero]
      iterate 6 (refine wpOrd_take (v := ?_) (fun _ _ _ h => h) (Or.inl ⟨by rfl, ?_⟩) (by assumption) ?_; rotate_left; (focus (intro w hSw; (try dsimp only at hSw); go_simp; (try with_reducible rfl))); (try simp only [Act.put, List.setIfInBounds_toArray, List.set_cons_zero, List.set_cons_succ]))
      refine wpOrd_do (fun K hK => ?_)
      go_simp
      go_at_call 71
      refine (HC.out q _ hbw.drew).mono ?_
      rintro e w4 ⟨rfl, hb4'⟩
      have hb4 := below_step (below_drew wr) hb4'
      clear hb4'
      rw [show clsAt r.classes q = r.cls q from rfl]
      have hB4 := below_step hbw hb4
      have b0' := (hb4.cell (p := ⟨w.heap.size, 0, none⟩) (by simp; omega)).trans b0
      have b1' := (hb4.cell (p := ⟨w.heap.size, 1, none⟩) (by simp; omega)).trans b1
      have b2' := (hb4.cell (p := ⟨w.heap.size, 2, none⟩) (by simp; omega)).trans b2
      have b3' := (hb4.cell (p := ⟨w.heap.size, 3, none⟩) (by simp; omega)).trans b3
      have c6' := (hb4.cell (p := ⟨w.heap.size + 1, 6, none⟩) (by simp; omega)).trans c6
      have s0' := (hb4.cell (p := ⟨sb, 0, none⟩) (by simp; omega)).trans s0
      have s1' := (hb4.cell (p := ⟨sb, 1, none⟩) (by simp; omega)).trans s1
      have s2' := (hb4.cell (p := ⟨sb, 2, none⟩) (by simp; omega)).trans s2
      have hc' := (hb4.cell (p := ⟨g, o + j, none⟩) (by simp; omega)).trans hc
      have hz4 : sb < w4.heap.size := Nat.lt_of_lt_of_le hsz hb4.size
      clear b0 b1 b2 b3 c6 s0 s1 s2 hb4 hc hcd
      refine hK.out _ _ (⟨hB4, ⟨b0', b1', b2', b3'⟩, c6', hc'⟩) (fun hHeld => ?_)
      clear hK K
      (try simp only [Act.put, List.setIfInBounds_toArray, List.set_cons_zero, List.set_cons_succ])
      refine wpOrd_end ?_
      by_cases hq : r.cls q = 0
      · have HQ := Lib.hid (HN.out hq)
        rw [hq]
        clear hq
        go_wp2
        go_roundw
        case rel => exact ⟨j + 1, by omega, by go_num, HQ, ⟨b0', b1', b2', b3'⟩, c6', ⟨s0', s1', s2'⟩, hB4, hz4⟩
        case measure => simp [intOf]; omega
      · have HQ := Lib.hid (HA.out hq)
        have kq := beq_f hq
        generalize r.cls q = cq at *
        go_wp2
        go_ret
        exact ⟨ret_bool (by rw [HZ.out, HQ.out, Bool.false_and]), hB4⟩
    · obtain rfl : j = n := by omega
      have HQ := Lib.hid (HAE.out (fun i hi => HS.out i hi (by have := Hn.out; omega)))
      have HZ2 := Lib.hid (HZ.out.trans (by rw [HQ.out, Bool.true_and]))
      clear HZ HQ HS HAT HAE Hn
      go_wp2
      all_goals
        go_ret
        refine ⟨ret_bool ?_, hbw⟩
        rw [HZ2.out]
        clear HZ2 HC HX HV b0 b1 b2 b3 s0 s1 s2
        simp_all
        try (rw [Bool.eq_iff_iff]; simp; done)
end Go.Proofs.YtdjldmpfginkdaaGreatDoor
