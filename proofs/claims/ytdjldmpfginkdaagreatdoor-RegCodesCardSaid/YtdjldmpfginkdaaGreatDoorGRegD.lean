/- Contracts of telref25.immFits; regcode.classesFit's closure.
  Contract of regcode.classesFit.
  Contracts of telgen.EqualInts, EqualRows: at equal lists they answer true.
  Contract of tellaw27.has.
  Blocks known whole, read as slices. -/
import Derived.Test.YtdjldmpfginkdaaGreatDoorGRegC
import Derived.Test.YtdjldmpfginkdaaGreatDoorGRegB
import Derived.Test.YtdjldmpfginkdaaGreatDoorGOrd
import Derived.BigQuiet
import Derived.Deep.QuietTactic
import Derived.WalkSmall
namespace Go.Proofs.YtdjldmpfginkdaaGreatDoor
open Go.RowKit
attribute [local go_sem ↓] Go.wp_at_zero Go.wp_at_succ

/-- The number fits, where the fields that are not used are looked at elsewhere. -/
def immG (op imm : Int) (n e : Nat) : Bool :=
  if op = 17 ∨ op = 18 then decide (0 ≤ imm ∧ imm < n)
  else if op = 5 then decide (1 ≤ imm ∧ imm ≤ 3)
  else if op = 8 then decide (1 ≤ imm ∧ imm ≤ 7)
  else if op = 13 then decide (0 ≤ imm ∧ imm < 6)
  else if op = 22 then decide (0 ≤ imm ∧ imm < e)
  else if op = 25 ∨ op = 27 then decide (1 ≤ imm)
  else true
theorem immF_eq (op imm : Int) (n e : Nat) : immF op imm n e = (immG op imm n e && (oI op || decide (imm = 0))) := by
  unfold immF immG oI
  by_cases h1 : op = 17 ∨ op = 18
  · rw [if_pos h1, if_pos h1]; rcases h1 with rfl | rfl <;> simp
  rw [if_neg h1, if_neg h1]
  by_cases h2 : op = 5
  · rw [if_pos h2, if_pos h2]; subst h2; simp
  rw [if_neg h2, if_neg h2]
  by_cases h3 : op = 8
  · rw [if_pos h3, if_pos h3]; subst h3; simp
  rw [if_neg h3, if_neg h3]
  by_cases h4 : op = 13
  · rw [if_pos h4, if_pos h4]; subst h4; simp
  rw [if_neg h4, if_neg h4]
  by_cases h5 : op = 22
  · rw [if_pos h5, if_pos h5]; subst h5; simp
  rw [if_neg h5, if_neg h5]
  by_cases h6 : op = 25 ∨ op = 27
  · rw [if_pos h6, if_pos h6]; rcases h6 with rfl | rfl <;> simp
  rw [if_neg h6, if_neg h6]
  have : decide (op = 5 ∨ op = 8 ∨ op = 13 ∨ op = 17 ∨ op = 18 ∨ op = 22 ∨ op = 25 ∨ op = 27) = false := by rw [decide_eq_false_iff_not]; omega
  rw [this]; simp
set_option maxHeartbeats 4000000 in
theorem c_immFits (op imm : Int) (r0 r1 u1 u2 u3 u5 u6 u7 u8 u9 u10 u11 u12 u13 u14 : Value) (IA DA : Option Addr) (n ic e dc : Nat) (w : World) :
    Calls Tryz.prog 51 #[.agg #[r0, r1, .slice IA n ic, .slice DA e dc], .agg #[.int .i64 op, u1, u2, u3, .int .i64 imm, u5, u6, u7, u8, u9, u10, u11, u12, u13, u14]] w fun e' w' => e' = .returned (.bool (immG op imm n e)) ∧ Below w.heap.size w w' := by
  by_cases h17 : op = 17
  case pos =>
    subst h17
    go_enter Tryz.func51, Tryz.ntmps51
    go_wp2
    all_goals
      go_ret
      refine ⟨ret_bool ?_, below_step (below_new _ _) (below_new _ _)⟩
      simp_all [immG]
      try first | omega | (rw [Bool.eq_iff_iff]; simp; omega)
  have k17 := beq_f h17
  by_cases h18 : op = 18
  case pos =>
    subst h18
    go_enter Tryz.func51, Tryz.ntmps51
    go_wp2
    all_goals
      go_ret
      refine ⟨ret_bool ?_, below_step (below_new _ _) (below_new _ _)⟩
      simp_all [immG]
      try first | omega | (rw [Bool.eq_iff_iff]; simp; omega)
  have k18 := beq_f h18
  by_cases h5 : op = 5
  case pos =>
    subst h5
    go_enter Tryz.func51, Tryz.ntmps51
    go_wp2
    all_goals
      go_ret
      refine ⟨ret_bool ?_, below_step (below_new _ _) (below_new _ _)⟩
      simp_all [immG]
      try first | omega | (rw [Bool.eq_iff_iff]; simp; omega)
  have k5 := beq_f h5
  by_cases h8 : op = 8
  case pos =>
    subst h8
    go_enter Tryz.func51, Tryz.ntmps51
    go_wp2
    all_goals
      go_ret
      refine ⟨ret_bool ?_, below_step (below_new _ _) (below_new _ _)⟩
      simp_all [immG]
      try first | omega | (rw [Bool.eq_iff_iff]; simp; omega)
  have k8 := beq_f h8
  by_cases h13 : op = 13
  case pos =>
    subst h13
    go_enter Tryz.func51, Tryz.ntmps51
    go_wp2
    all_goals
      go_ret
      refine ⟨ret_bool ?_, below_step (below_new _ _) (below_new _ _)⟩
      simp_all [immG]
      try first | omega | (rw [Bool.eq_iff_iff]; simp; omega)
  have k13 := beq_f h13
  by_cases h22 : op = 22
  case pos =>
    subst h22
    go_enter Tryz.func51, Tryz.ntmps51
    go_wp2
    all_goals
      go_ret
      refine ⟨ret_bool ?_, below_step (below_new _ _) (below_new _ _)⟩
      simp_all [immG]
      try first | omega | (rw [Bool.eq_iff_iff]; simp; omega)
  have k22 := beq_f h22
  by_cases h25 : op = 25
  case pos =>
    subst h25
    go_enter Tryz.func51, Tryz.ntmps51
    go_wp2
    all_goals
      go_ret
      refine ⟨ret_bool ?_, below_step (below_new _ _) (below_new _ _)⟩
      simp_all [immG]
      try first | omega | (rw [Bool.eq_iff_iff]; simp; omega)
  have k25 := beq_f h25
  by_cases h27 : op = 27
  case pos =>
    subst h27
    go_enter Tryz.func51, Tryz.ntmps51
    go_wp2
    all_goals
      go_ret
      refine ⟨ret_bool ?_, below_step (below_new _ _) (below_new _ _)⟩
      simp_all [immG]
      try first | omega | (rw [Bool.eq_iff_iff]; simp; omega)
  have k27 := beq_f h27
  have HZ : Hid (immG op imm n e = true) := Lib.hid (by simp [immG, *])
  go_enter Tryz.func51, Tryz.ntmps51
  go_wp2
  all_goals
    go_ret
    exact ⟨ret_bool HZ.out.symm, below_step (below_new _ _) (below_new _ _)⟩
set_option maxHeartbeats 400000 in
theorem c_raw (c : Int) (w : World) : Calls Tryz.prog 68 #[.int .i64 c] w fun e w' => e = .returned (.bool (decide (c = 1 ∨ c = 2))) ∧ w' = w := by
  go_enter Tryz.func68, Tryz.ntmps68
  go_wp2
  all_goals
    go_ret
    refine ⟨ret_bool ?_, rfl⟩
    simp_all
    try (rw [Bool.eq_iff_iff]; simp; try omega)
end Go.Proofs.YtdjldmpfginkdaaGreatDoor
namespace Go.Proofs.YtdjldmpfginkdaaGreatDoor
open Go.RowKit
attribute [local go_sem ↓] Go.wp_at_zero Go.wp_at_succ

theorem blk_new3 (w : World) (o o' o'' : Obj) : (((w.alloc o).alloc o').alloc o'').heap[w.heap.size + 2]? = some o'' := by
  have := blk_new ((w.alloc o).alloc o') o''
  simpa using this
theorem allTo (r : Rc) (l : List Int) (j : Nat) (hj : j < l.length) (h : ¬ r.cls l[j] = 0) : l.all (fun n => decide (r.cls n = 0)) = false := by
  rw [List.all_eq_false]
  exact ⟨l[j], List.getElem_mem hj, by simpa using h⟩
theorem allEnd (r : Rc) (l : List Int) (h : ∀ (i : Nat) (hi : i < l.length), r.cls l[i] = 0) : l.all (fun n => decide (r.cls n = 0)) = true := by
  rw [List.all_eq_true]
  intro n hn
  obtain ⟨i, hi, rfl⟩ := List.mem_iff_getElem.1 hn
  simpa using h i hi
theorem IsInts.at_ {w w' : World} {B : Nat} {l : List Int} {A : Option Addr} {n c : Nat} (h : IsInts w B l (.slice A n c)) (hb : ∀ b, b < B → w'.heap[b]? = w.heap[b]?) {j : Nat} (hj : j < n) :
    ∃ g o, ∃ hj' : j < l.length, A = some ⟨g, o, none⟩ ∧ g < B ∧ w'.cell? ⟨g, o + j, none⟩ = some (.int .i64 l[j]) := by
  obtain ⟨A', c', hv, _, _, _, _, hr⟩ := h
  simp only [Value.slice.injEq] at hv
  obtain ⟨rfl, rfl, rfl⟩ := hv
  obtain ⟨g, o, hj', hA, hg, hc⟩ := (hr.keep hb (Nat.le_refl _)).at_ (j := j) (by omega)
  rw [ints_get] at hc
  exact ⟨g, o, by simpa [ints] using hj', hA, hg, hc⟩

def fitE (op ck d a b : Int) : Option Bool :=
  if op = 1 then some (decide (d = 0 ∨ (d = 1 ∧ ck = 1) ∨ (d = 2 ∧ ck = 2)))
  else if op = 2 then some (decide (0 ≤ d ∧ d = a))
  else if op = 3 then some (decide (d = 0 ∧ (a = 1 ∨ a = 2)))
  else if op = 4 then some (decide ((d = 1 ∨ d = 2) ∧ a = 0))
  else if op = 5 then some (decide (d = 1 ∧ a = 1 ∧ b = 1))
  else if op = 6 then some (decide (d = 2 ∧ a = 1 ∧ b = 1))
  else if op = 7 then some (decide (d = 2 ∧ a = 2))
  else if op = 14 then some (decide (d = 2 ∧ a = 0))
  else if op = 18 then some (decide (a = 2))
  else none
theorem fitB_eq (r : Rc) (x : Ins) : fitB r x = match fitE x.op x.ck (r.cls x.dst) (r.cls x.a) (r.cls x.b) with
    | some b => b
    | none => x.args.all (fun n => decide (r.cls n = 0)) && ((!oD x.op || decide (r.cls x.dst = 0)) && (!oA x.op || decide (r.cls x.a = 0)) && (!oB x.op x.imm || decide (r.cls x.b = 0))) := by
  unfold fitB fitE
  repeat' split
  all_goals simp_all [Bool.and_assoc]

set_option maxRecDepth 100000 in
set_option maxHeartbeats 8000000 in
theorem c_classesFit (r : Rc) (x : Ins) (u0 u2 u3 v : Value) (A : Option Addr) (c : Nat) (TA : Option Addr) (tc : Nat) (EA : Option Addr) (ec : Nat) (s3 s4 s5 s6 s7 : Value) (w : World) (B : Nat)
    (hv : IsInts w B r.classes v) (hB : B ≤ w.heap.size) (hx : IsInts w B x.args (.slice A x.args.length c)) (hla : x.args.length ≤ 2 ^ 40) :
    Calls Tryz.prog 45 #[.agg #[u0, v, u2, u3], .agg #[.int .i64 x.op, .int .i64 x.dst, .int .i64 x.a, .int .i64 x.b, .int .i64 x.imm, .string x.name, .slice A x.args.length c, .int .i64 x.ty.kind, .string x.ty.name, .int .i64 x.ty.index, .slice TA x.ty.args.length tc, .int .i64 x.ck, .int .i64 x.ci, .string x.cs, .slice EA x.ce ec], .agg #[.bool (oD x.op), .bool (oA x.op), .bool (oB x.op x.imm), s3, s4, s5, s6, s7]] w fun e w' => e = .returned (.bool (fitB r x)) ∧ Below w.heap.size w w' := by
  have HF := Lib.hid (fitB_eq r x)
  have HV := Lib.hid hv
  have HX := Lib.hid hx
  clear hv hx
  have HC := Lib.hid (fun (n : Int) (W : World) (hW : Below w.heap.size w W) => c_classOf u0 u2 u3 v r.classes n W B (HV.out.below hW hB) (Nat.le_trans hB hW.size))
  have HW : Hid (∀ W W' : World, W = ((w.alloc (.cells #[u0, v, u2, u3] 26)).alloc (.cells #[.int .i64 x.op, .int .i64 x.dst, .int .i64 x.a, .int .i64 x.b, .int .i64 x.imm, .string x.name, .slice A x.args.length c, .int .i64 x.ty.kind, .string x.ty.name, .int .i64 x.ty.index, .slice TA x.ty.args.length tc, .int .i64 x.ck, .int .i64 x.ci, .string x.cs, .slice EA x.ce ec] 38)).alloc (.cells #[.bool (oD x.op), .bool (oA x.op), .bool (oB x.op x.imm), s3, s4, s5, s6, s7] 65) → Below W.heap.size W W' →
      (W'.cell? ⟨w.heap.size, 0, none⟩ = some u0 ∧ W'.cell? ⟨w.heap.size, 1, none⟩ = some v ∧ W'.cell? ⟨w.heap.size, 2, none⟩ = some u2 ∧ W'.cell? ⟨w.heap.size, 3, none⟩ = some u3) ∧
      (W'.cell? ⟨w.heap.size + 1, 0, none⟩ = some (.int .i64 x.op) ∧ W'.cell? ⟨w.heap.size + 1, 1, none⟩ = some (.int .i64 x.dst) ∧ W'.cell? ⟨w.heap.size + 1, 2, none⟩ = some (.int .i64 x.a) ∧ W'.cell? ⟨w.heap.size + 1, 3, none⟩ = some (.int .i64 x.b) ∧ W'.cell? ⟨w.heap.size + 1, 6, none⟩ = some (.slice A x.args.length c) ∧ W'.cell? ⟨w.heap.size + 1, 11, none⟩ = some (.int .i64 x.ck)) ∧
      (W'.cell? ⟨w.heap.size + 2, 0, none⟩ = some (.bool (oD x.op)) ∧ W'.cell? ⟨w.heap.size + 2, 1, none⟩ = some (.bool (oA x.op)) ∧ W'.cell? ⟨w.heap.size + 2, 2, none⟩ = some (.bool (oB x.op x.imm))) ∧ Below w.heap.size w W' ∧ w.heap.size + 3 ≤ W'.heap.size) := Lib.hid (fun W W' hW hb => by
    have hs : W.heap.size = w.heap.size + 3 := by subst hW; simp
    have h1 : W.heap[w.heap.size]? = some (.cells #[u0, v, u2, u3] 26) := by subst hW; exact blk_old (blk_old (blk_new _ _))
    have h2 : W.heap[w.heap.size + 1]? = some (.cells #[.int .i64 x.op, .int .i64 x.dst, .int .i64 x.a, .int .i64 x.b, .int .i64 x.imm, .string x.name, .slice A x.args.length c, .int .i64 x.ty.kind, .string x.ty.name, .int .i64 x.ty.index, .slice TA x.ty.args.length tc, .int .i64 x.ck, .int .i64 x.ci, .string x.cs, .slice EA x.ce ec] 38) := by subst hW; exact blk_old (blk_new2 _ _ _)
    have h3 : W.heap[w.heap.size + 2]? = some (.cells #[.bool (oD x.op), .bool (oA x.op), .bool (oB x.op x.imm), s3, s4, s5, s6, s7] 65) := by subst hW; exact blk_new3 _ _ _ _
    have hbw : Below w.heap.size w W := by subst hW; exact below_step (below_step (below_new _ _) (below_new _ _)) (below_new _ _)
    have hc : ∀ (b i : Nat), b < W.heap.size → W'.cell? ⟨b, i, none⟩ = W.cell? ⟨b, i, none⟩ := fun b i hb' => hb.cell (p := ⟨b, i, none⟩) hb'
    have hsz := hb.size
    refine ⟨⟨?_, ?_, ?_, ?_⟩, ⟨?_, ?_, ?_, ?_, ?_, ?_⟩, ⟨?_, ?_, ?_⟩, below_step hbw hb, by omega⟩
    · rw [hc _ _ (by omega), cell_of_row _ w.heap.size _ _ _ _ h1]; rfl
    · rw [hc _ _ (by omega), cell_of_row _ w.heap.size _ _ _ _ h1]; rfl
    · rw [hc _ _ (by omega), cell_of_row _ w.heap.size _ _ _ _ h1]; rfl
    · rw [hc _ _ (by omega), cell_of_row _ w.heap.size _ _ _ _ h1]; rfl
    · rw [hc _ _ (by omega), cell_of_row _ (w.heap.size + 1) _ _ _ _ h2]; rfl
    · rw [hc _ _ (by omega), cell_of_row _ (w.heap.size + 1) _ _ _ _ h2]; rfl
    · rw [hc _ _ (by omega), cell_of_row _ (w.heap.size + 1) _ _ _ _ h2]; rfl
    · rw [hc _ _ (by omega), cell_of_row _ (w.heap.size + 1) _ _ _ _ h2]; rfl
    · rw [hc _ _ (by omega), cell_of_row _ (w.heap.size + 1) _ _ _ _ h2]; rfl
    · rw [hc _ _ (by omega), cell_of_row _ (w.heap.size + 1) _ _ _ _ h2]; rfl
    · rw [hc _ _ (by omega), cell_of_row _ (w.heap.size + 2) _ _ _ _ h3]; rfl
    · rw [hc _ _ (by omega), cell_of_row _ (w.heap.size + 2) _ _ _ _ h3]; rfl
    · rw [hc _ _ (by omega), cell_of_row _ (w.heap.size + 2) _ _ _ _ h3]; rfl)
  have HAT := Lib.hid (fun (j : Nat) (hj : j < x.args.length) => allTo r x.args j hj)
  have HAE := Lib.hid (allEnd r x.args)
  go_enter Tryz.func45, Tryz.ntmps45
  go_wp2
  generalize hWW : ((w.alloc _).alloc _).alloc _ = W
  have HK := Lib.hid (fun W' => HW.out W W' hWW.symm)
  clear hWW HW
  obtain ⟨⟨b0, b1, b2, b3⟩, ⟨c0, c1, c2, c3, c6, c11⟩, ⟨s0, s1, s2⟩, hbw, hsz⟩ := HK.out W (Below.refl _ _)
  refine wp_region_ord (fun W' : World => Below w.heap.size w W' ∧ (W'.cell? ⟨w.heap.size, 0, none⟩ = some (u0) ∧ W'.cell? ⟨w.heap.size, 1, none⟩ = some (v) ∧ W'.cell? ⟨w.heap.size, 2, none⟩ = some (u2) ∧ W'.cell? ⟨w.heap.size, 3, none⟩ = some (u3)) ∧ (W'.cell? ⟨w.heap.size + 1, 0, none⟩ = some (.int .i64 x.op) ∧ W'.cell? ⟨w.heap.size + 1, 1, none⟩ = some (.int .i64 x.dst) ∧ W'.cell? ⟨w.heap.size + 1, 2, none⟩ = some (.int .i64 x.a) ∧ W'.cell? ⟨w.heap.size + 1, 3, none⟩ = some (.int .i64 x.b))) 12 [(0, true), (1, true), (2, true), (4, true), (5, true), (6, true), (8, true), (9, true), (10, true), (3, false), (7, false), (11, false)] (by kernel_rfl) (by kernel_rfl) (⟨hbw.drew, ⟨b0, b1, b2, b3⟩, c0, c1, c2, c3⟩) (fun hHeld => ?_)
  simp only [pickOps, List.getElem?_cons_succ, List.getElem?_cons_zero, List.drop_succ_cons, List.drop_zero]
  iterate 9 (refine wpOrd_take (v := ?_) (fun _ _ _ h => h) (Or.inl ⟨by rfl, ?_⟩) (by assumption) ?_; rotate_left; (focus (intro w hSw; (try dsimp only at hSw); go_simp; (try with_reducible rfl))); (try simp only [Act.put, List.setIfInBounds_toArray, List.set_cons_zero, List.set_cons_succ]))
  refine wpOrd_do (fun K hK => ?_)
  go_simp
  go_at_call 67
  refine (HC.out x.dst _ hbw.drew).mono ?_
  rintro e w1 ⟨rfl, hb1⟩
  have hB1 := Lib.hid (below_step (below_drew W) hb1)
  have hW1 := (HK.out w1 hB1.out).2.2.2.1
  clear hb1
  refine hK.out _ _ (⟨hW1, (HK.out w1 hB1.out).1, (HK.out w1 hB1.out).2.1.1, (HK.out w1 hB1.out).2.1.2.1, (HK.out w1 hB1.out).2.1.2.2.1, (HK.out w1 hB1.out).2.1.2.2.2.1⟩) (fun hHeld => ?_)
  clear hK K
  (try simp only [Act.put, List.setIfInBounds_toArray, List.set_cons_zero, List.set_cons_succ])
  refine wpOrd_do (fun K hK => ?_)
  go_simp
  go_at_call 67
  refine (HC.out x.a _ hW1).mono ?_
  rintro e w2 ⟨rfl, hb2⟩
  have hB2 := Lib.hid (below_step hB1.out hb2)
  have hW2 := (HK.out w2 hB2.out).2.2.2.1
  clear hb2
  refine hK.out _ _ (⟨hW2, (HK.out w2 hB2.out).1, (HK.out w2 hB2.out).2.1.1, (HK.out w2 hB2.out).2.1.2.1, (HK.out w2 hB2.out).2.1.2.2.1, (HK.out w2 hB2.out).2.1.2.2.2.1⟩) (fun hHeld => ?_)
  clear hK K
  (try simp only [Act.put, List.setIfInBounds_toArray, List.set_cons_zero, List.set_cons_succ])
  refine wpOrd_do (fun K hK => ?_)
  go_simp
  go_at_call 67
  refine (HC.out x.b _ hW2).mono ?_
  rintro e w3 ⟨rfl, hb3⟩
  have hB3 := Lib.hid (below_step hB2.out hb3)
  have hW3 := (HK.out w3 hB3.out).2.2.2.1
  clear hb3
  refine hK.out _ _ (⟨hW3, (HK.out w3 hB3.out).1, (HK.out w3 hB3.out).2.1.1, (HK.out w3 hB3.out).2.1.2.1, (HK.out w3 hB3.out).2.1.2.2.1, (HK.out w3 hB3.out).2.1.2.2.2.1⟩) (fun hHeld => ?_)
  clear hK K
  (try simp only [Act.put, List.setIfInBounds_toArray, List.set_cons_zero, List.set_cons_succ])
  refine wpOrd_end ?_
  clear b0 b1 b2 b3 c0 c1 c2 c3 c6 c11 s0 s1 s2 hbw hsz hW1 hW2 hHeld
  obtain ⟨⟨b0, b1, b2, b3⟩, ⟨c0, c1, c2, c3, c6, c11⟩, ⟨s0, s1, s2⟩, hbw, hsz⟩ := HK.out w3 hB3.out
  rw [show clsAt r.classes x.dst = r.cls x.dst from rfl, show clsAt r.classes x.a = r.cls x.a from rfl, show clsAt r.classes x.b = r.cls x.b from rfl]
  clear hW3 HK hB1 hB2 hB3
  generalize r.cls x.dst = d, r.cls x.a = a, r.cls x.b = b at *
  generalize x.op = op, x.ck = ck at *
  by_cases h1 : op = 1
  case pos =>
    subst h1
    go_wp2_with (go_at_call 68; refine (c_raw _ _).mono ?_; rintro e w5 ⟨rfl, rfl⟩)
    all_goals
      go_ret
      refine ⟨ret_bool ?_, hbw⟩
      rw [HF.out]
      clear HF HX hbw b0 b1 b2 b3 c0 c1 c2 c3 c6 c11 s0 s1 s2 HV HC HAT HAE
      simp_all [fitE]
      try (first | omega | (rw [Bool.eq_iff_iff]; simp; try omega))
  have k1 := beq_f h1
  by_cases h2 : op = 2
  case pos =>
    subst h2
    go_wp2_with (go_at_call 68; refine (c_raw _ _).mono ?_; rintro e w5 ⟨rfl, rfl⟩)
    all_goals
      go_ret
      refine ⟨ret_bool ?_, hbw⟩
      rw [HF.out]
      clear HF HX hbw b0 b1 b2 b3 c0 c1 c2 c3 c6 c11 s0 s1 s2 HV HC HAT HAE
      simp_all [fitE]
      try (first | omega | (rw [Bool.eq_iff_iff]; simp; try omega))
  have k2 := beq_f h2
  by_cases h3 : op = 3
  case pos =>
    subst h3
    go_wp2_with (go_at_call 68; refine (c_raw _ _).mono ?_; rintro e w5 ⟨rfl, rfl⟩)
    all_goals
      go_ret
      refine ⟨ret_bool ?_, hbw⟩
      rw [HF.out]
      clear HF HX hbw b0 b1 b2 b3 c0 c1 c2 c3 c6 c11 s0 s1 s2 HV HC HAT HAE
      simp_all [fitE]
      try (first | omega | (rw [Bool.eq_iff_iff]; simp; try omega))
  have k3 := beq_f h3
  by_cases h4 : op = 4
  case pos =>
    subst h4
    go_wp2_with (go_at_call 68; refine (c_raw _ _).mono ?_; rintro e w5 ⟨rfl, rfl⟩)
    all_goals
      go_ret
      refine ⟨ret_bool ?_, hbw⟩
      rw [HF.out]
      clear HF HX hbw b0 b1 b2 b3 c0 c1 c2 c3 c6 c11 s0 s1 s2 HV HC HAT HAE
      simp_all [fitE]
      try (first | omega | (rw [Bool.eq_iff_iff]; simp; try omega))
  have k4 := beq_f h4
  by_cases h5 : op = 5
  case pos =>
    subst h5
    go_wp2_with (go_at_call 68; refine (c_raw _ _).mono ?_; rintro e w5 ⟨rfl, rfl⟩)
    all_goals
      go_ret
      refine ⟨ret_bool ?_, hbw⟩
      rw [HF.out]
      clear HF HX hbw b0 b1 b2 b3 c0 c1 c2 c3 c6 c11 s0 s1 s2 HV HC HAT HAE
      simp_all [fitE]
      try (first | omega | (rw [Bool.eq_iff_iff]; simp; try omega))
  have k5 := beq_f h5
  by_cases h6 : op = 6
  case pos =>
    subst h6
    go_wp2_with (go_at_call 68; refine (c_raw _ _).mono ?_; rintro e w5 ⟨rfl, rfl⟩)
    all_goals
      go_ret
      refine ⟨ret_bool ?_, hbw⟩
      rw [HF.out]
      clear HF HX hbw b0 b1 b2 b3 c0 c1 c2 c3 c6 c11 s0 s1 s2 HV HC HAT HAE
      simp_all [fitE]
      try (first | omega | (rw [Bool.eq_iff_iff]; simp; try omega))
  have k6 := beq_f h6
  by_cases h7 : op = 7
  case pos =>
    subst h7
    go_wp2_with (go_at_call 68; refine (c_raw _ _).mono ?_; rintro e w5 ⟨rfl, rfl⟩)
    all_goals
      go_ret
      refine ⟨ret_bool ?_, hbw⟩
      rw [HF.out]
      clear HF HX hbw b0 b1 b2 b3 c0 c1 c2 c3 c6 c11 s0 s1 s2 HV HC HAT HAE
      simp_all [fitE]
      try (first | omega | (rw [Bool.eq_iff_iff]; simp; try omega))
  have k7 := beq_f h7
  by_cases h14 : op = 14
  case pos =>
    subst h14
    go_wp2_with (go_at_call 68; refine (c_raw _ _).mono ?_; rintro e w5 ⟨rfl, rfl⟩)
    all_goals
      go_ret
      refine ⟨ret_bool ?_, hbw⟩
      rw [HF.out]
      clear HF HX hbw b0 b1 b2 b3 c0 c1 c2 c3 c6 c11 s0 s1 s2 HV HC HAT HAE
      simp_all [fitE]
      try (first | omega | (rw [Bool.eq_iff_iff]; simp; try omega))
  have k14 := beq_f h14
  by_cases h18 : op = 18
  case pos =>
    subst h18
    go_wp2_with (go_at_call 68; refine (c_raw _ _).mono ?_; rintro e w5 ⟨rfl, rfl⟩)
    all_goals
      go_ret
      refine ⟨ret_bool ?_, hbw⟩
      rw [HF.out]
      clear HF HX hbw b0 b1 b2 b3 c0 c1 c2 c3 c6 c11 s0 s1 s2 HV HC HAT HAE
      simp_all [fitE]
      try (first | omega | (rw [Bool.eq_iff_iff]; simp; try omega))
  have k18 := beq_f h18
  have HZ : Hid (fitB r x = (x.args.all (fun n => decide (r.cls n = 0)) && ((!oD op || decide (d = 0)) && (!oA op || decide (a = 0)) && (!oB op x.imm || decide (b = 0))))) := Lib.hid (by
    rw [HF.out]
    simp [fitE, *])
  clear HF
  generalize oD op = od, oA op = oa, oB op x.imm = ob at *
  generalize x.args = args at *
  generalize hn : args.length = n at HX c6 hla
  have Hn := Lib.hid hn
  clear hn
  go_wp2
  go_loopw [125] (fun s wr => ∃ j : Nat, j ≤ n ∧ s = .int .i64 j ∧ Hid (∀ (i : Nat) (hi : i < args.length), i < j → r.cls args[i] = 0) ∧ (wr.cell? ⟨w.heap.size, 0, none⟩ = some (u0) ∧ wr.cell? ⟨w.heap.size, 1, none⟩ = some (v) ∧ wr.cell? ⟨w.heap.size, 2, none⟩ = some (u2) ∧ wr.cell? ⟨w.heap.size, 3, none⟩ = some (u3)) ∧ (wr.cell? ⟨w.heap.size + 2, 0, none⟩ = some (.bool od) ∧ wr.cell? ⟨w.heap.size + 2, 1, none⟩ = some (.bool oa) ∧ wr.cell? ⟨w.heap.size + 2, 2, none⟩ = some (.bool ob)) ∧ Below w.heap.size w wr ∧ w.heap.size + 3 ≤ wr.heap.size) (fun s _ => n - (intOf s).toNat)
  case atStart => exact ⟨0, by omega, rfl, Lib.hid (fun _ _ h => by omega), ⟨b0, b1, b2, b3⟩, ⟨s0, s1, s2⟩, hbw, hsz⟩
  case round =>
    clear b0 b1 b2 b3 s0 s1 s2 hbw hsz c0 c1 c2 c3 c6 c11 k1 k2 k3 k4 k5 k6 k7 k14 k18
    obtain ⟨j, hj, rfl, HS, ⟨b0, b1, b2, b3⟩, ⟨s0, s1, s2⟩, hbw, hsz⟩ := hrel
    by_cases hjn : j < n
    · obtain ⟨g, o, hj', rfl, hg, hc⟩ := HX.out.at_ (fun b hb => hbw.block b (by omega)) hjn
      have hj0 : (0 : Int) ≤ (j : Int) := by omega
      have hj1 : (j : Int) < (n : Int) := by omega
      have HA := Lib.hid (HAT.out j hj')
      have HN : Hid (r.cls args[j] = 0 → ∀ (i : Nat) (hi : i < args.length), i < j + 1 → r.cls args[i] = 0) := Lib.hid (fun h i hi hij => by
        rcases Nat.lt_or_ge i j with h1 | h1
        · exact HS.out i hi h1
        · obtain rfl : i = j := by omega
          exact h)
      generalize args[j] = q at *
      go_wp2_with fail
      refine (HC.out q _ hbw).mono ?_
      rintro e w4 ⟨rfl, hb4⟩
      rw [show clsAt r.classes q = r.cls q from rfl]
      have hB4 := below_step hbw hb4
      have b0' := (hb4.cell (p := ⟨w.heap.size, 0, none⟩) (by simp; omega)).trans b0
      have b1' := (hb4.cell (p := ⟨w.heap.size, 1, none⟩) (by simp; omega)).trans b1
      have b2' := (hb4.cell (p := ⟨w.heap.size, 2, none⟩) (by simp; omega)).trans b2
      have b3' := (hb4.cell (p := ⟨w.heap.size, 3, none⟩) (by simp; omega)).trans b3
      have s0' := (hb4.cell (p := ⟨w.heap.size + 2, 0, none⟩) (by simp; omega)).trans s0
      have s1' := (hb4.cell (p := ⟨w.heap.size + 2, 1, none⟩) (by simp; omega)).trans s1
      have s2' := (hb4.cell (p := ⟨w.heap.size + 2, 2, none⟩) (by simp; omega)).trans s2
      have hz4 : w.heap.size + 3 ≤ w4.heap.size := Nat.le_trans hsz hb4.size
      clear b0 b1 b2 b3 s0 s1 s2 hb4 hc
      by_cases hq : r.cls q = 0
      · have HQ := Lib.hid (HN.out hq)
        rw [hq]
        clear hq
        go_wp2
        go_roundw
        case rel => exact ⟨j + 1, by omega, by go_num, HQ, ⟨b0', b1', b2', b3'⟩, ⟨s0', s1', s2'⟩, hB4, hz4⟩
        case measure => simp [intOf]; omega
      · have HQ := Lib.hid (HA.out hq)
        have kq := beq_f hq
        generalize r.cls q = cq at *
        go_wp2
        go_ret
        exact ⟨ret_bool (by rw [HZ.out, HQ.out, Bool.false_and]), hB4⟩
    · obtain rfl : j = n := by omega
      have HQ := Lib.hid (HAE.out (fun i hi => HS.out i hi (by have := Hn.out; omega)))
      have HZ2 := Lib.hid (HZ.out.trans (by rw [HQ.out, Bool.true_and]))
      clear HZ HQ HS HAT HAE Hn
      go_wp2
      all_goals
        go_ret
        refine ⟨ret_bool ?_, hbw⟩
        rw [HZ2.out]
        clear HZ2 HC HX HV b0 b1 b2 b3 s0 s1 s2
        simp_all
        try (rw [Bool.eq_iff_iff]; simp; done)
end Go.Proofs.YtdjldmpfginkdaaGreatDoor
namespace Go.Proofs.YtdjldmpfginkdaaGreatDoor
open Go.RowKit
attribute [local go_sem ↓] Go.wp_at_zero Go.wp_at_succ

set_option maxHeartbeats 1000000 in
theorem c_EqualInts (xs : List Int) (va vb : Value) (w : World) (Ba Bb : Nat) (ha : IsInts w Ba xs va) (hb : IsInts w Bb xs vb) (hn : xs.length ≤ 2 ^ 47) :
    Calls Tryz.prog 28 #[va, vb] w fun e w' => e = .returned (.bool true) ∧ ∃ m, w' = w.drewN m := by
  have HA := Lib.hid ha
  have HB := Lib.hid hb
  obtain ⟨A, c, rfl, _⟩ := ha
  obtain ⟨A', c', rfl, _⟩ := hb
  have HL := Lib.hid (rfl : xs.length = xs.length)
  generalize xs.length = n at *
  go_enter Tryz.func28, Tryz.ntmps28
  go_wp2
  go_loopw [5] (fun i wr => ∃ (j d : Nat), j ≤ n ∧ i = .int .i64 j ∧ wr = w.drewN d) (fun i _ => n - (intOf i).toNat)
  case atStart => exact ⟨0, 0, by omega, rfl, rfl⟩
  case round =>
    obtain ⟨j, d, hj, rfl, rfl⟩ := hrel
    by_cases hjn : j < n
    · obtain ⟨g, o, hj', rfl, _, k1⟩ := HA.out.at_ (w' := w) (fun _ _ => rfl) hjn
      obtain ⟨g', o', _, rfl, _, k2⟩ := HB.out.at_ (w' := w) (fun _ _ => rfl) hjn
      generalize xs[j] = x at *
      have hj0 : (0 : Int) ≤ (j : Int) := by omega
      have hj1 : (j : Int) < (n : Int) := by omega
      go_wp2
      go_quiet (fail)
      go_wp2
      go_roundw
      case rel => exact ⟨j + 1, _, by omega, by go_num, rfl⟩
      case measure => simp [intOf]; omega
    · obtain rfl : n = j := by omega
      go_wp2
      go_ret
      exact ⟨rfl, _, rfl⟩
/-- A slice of slices of numbers. -/
def IsRows (w : World) (B : Nat) (ls : List (List Int)) (v : Value) : Prop := ∃ A c vs, v = .slice A ls.length c ∧ ls.length ≤ c ∧ c ≤ maxLen ∧ Rd w B 1 vs A ls.length ∧ vs.length = ls.length ∧ ∀ (i : Nat) (l : List Int) (u : Value), ls[i]? = some l → vs[i]? = some u → IsInts w B l u
theorem IsRows.keep {w w' : World} {B B' : Nat} {ls : List (List Int)} {v : Value} (h : IsRows w B ls v) (hk : ∀ b, b < B → w'.heap[b]? = w.heap[b]?) (hB : B ≤ B') : IsRows w' B' ls v := by
  obtain ⟨A, c, vs, hv, hc, hm, hr, hl, hi⟩ := h
  exact ⟨A, c, vs, hv, hc, hm, hr.keep hk hB, hl, fun i l u h1 h2 => (hi i l u h1 h2).keep hk hB⟩
theorem IsRows.below {w w' : World} {B C : Nat} {ls : List (List Int)} {v : Value} (h : IsRows w B ls v) (hb : Below C w w') (hB : B ≤ C) : IsRows w' B ls v :=
  h.keep (fun b hb' => hb.block b (by omega)) (Nat.le_refl _)
theorem IsRows.at_ {w : World} {B : Nat} {ls : List (List Int)} {A : Option Addr} {n c : Nat} (h : IsRows w B ls (.slice A n c)) {j : Nat} (hj : j < n) :
    ∃ g o l u, A = some ⟨g, o, none⟩ ∧ g < B ∧ ls[j]? = some l ∧ w.cell? ⟨g, o + j, none⟩ = some u ∧ IsInts w B l u := by
  obtain ⟨A', c', vs, hv, _, _, hr, hl, hi⟩ := h
  simp only [Value.slice.injEq] at hv
  obtain ⟨rfl, rfl, rfl⟩ := hv
  obtain ⟨g, o, hj', hA, hg, hc⟩ := hr.at_ (j := j) (by omega)
  exact ⟨g, o, _, _, hA, hg, List.getElem?_eq_getElem hj, hc, hi j _ _ (List.getElem?_eq_getElem hj) (List.getElem?_eq_getElem hj')⟩
theorem IsRows.form {w : World} {B : Nat} {ls : List (List Int)} {v : Value} (h : IsRows w B ls v) : ∃ A c, v = .slice A ls.length c := by
  obtain ⟨A, c, _, hv, _⟩ := h
  exact ⟨A, c, hv⟩
set_option maxHeartbeats 1000000 in
theorem c_EqualRows (ls : List (List Int)) (va vb : Value) (w : World) (Ba Bb : Nat) (ha : IsRows w Ba ls va) (hb : IsRows w Bb ls vb) (hn : ls.length ≤ 2 ^ 47) (hn2 : ∀ l ∈ ls, l.length ≤ 2 ^ 47) :
    Calls Tryz.prog 26 #[va, vb] w fun e w' => e = .returned (.bool true) ∧ ∃ m, w' = w.drewN m := by
  have HA := Lib.hid ha
  have HB := Lib.hid hb
  obtain ⟨A, c, rfl⟩ := ha.form
  obtain ⟨A', c', rfl⟩ := hb.form
  have HL := Lib.hid hn2
  clear ha hb hn2
  generalize ls.length = n at *
  go_enter Tryz.func26, Tryz.ntmps26
  go_wp2
  go_loopw [5] (fun i wr => ∃ (j d : Nat), j ≤ n ∧ i = .int .i64 j ∧ wr = w.drewN d) (fun i _ => n - (intOf i).toNat)
  case atStart => exact ⟨0, 0, by omega, rfl, rfl⟩
  case round =>
    obtain ⟨j, d, hj, rfl, rfl⟩ := hrel
    by_cases hjn : j < n
    · obtain ⟨g, o, l, u, rfl, _, hl, k1, hu⟩ := HA.out.at_ hjn
      obtain ⟨g', o', l', u', rfl, _, hl', k2, hu'⟩ := HB.out.at_ hjn
      obtain rfl : l = l' := by rw [hl] at hl'; exact Option.some.inj hl'
      have HC : Hid (∀ k, Calls Tryz.prog 28 #[u, u'] (w.drewN k) fun e w' => e = .returned (.bool true) ∧ ∃ m, w' = (w.drewN k).drewN m) := Lib.hid (fun k =>
        c_EqualInts l u u' _ _ _ (hu.keep (fun _ _ => rfl) (Nat.le_refl _)) (hu'.keep (fun _ _ => rfl) (Nat.le_refl _)) (HL.out l (List.mem_of_getElem? hl)))
      clear hu hu' hl hl'
      have hj0 : (0 : Int) ≤ (j : Int) := by omega
      have hj1 : (j : Int) < (n : Int) := by omega
      go_wp2
      go_quiet (first | (go_at_call 28; exact (HC.out _).mono (fun _ w' h => ⟨h.1, by obtain ⟨m, h⟩ := h.2; exact ⟨_, h.trans (by simp only [World.drewN_drewN, Nat.add_assoc]; rfl)⟩⟩)))
      go_wp2
      go_roundw
      case rel => exact ⟨j + 1, _, by omega, by go_num, rfl⟩
      case measure => simp [intOf]; omega
    · obtain rfl : n = j := by omega
      go_wp2
      go_ret
      exact ⟨rfl, _, rfl⟩
end Go.Proofs.YtdjldmpfginkdaaGreatDoor
namespace Go.Proofs.YtdjldmpfginkdaaGreatDoor
open Go.RowKit
attribute [local go_sem ↓] Go.wp_at_zero Go.wp_at_succ

theorem mem_take_succ {xs : List Int} {n : Int} {j : Nat} (hj : j < xs.length) (h : ¬ n ∈ xs.take j) (hx : xs[j] ≠ n) : ¬ n ∈ xs.take (j + 1) := by
  rw [List.take_succ_eq_append_getElem hj, List.mem_append, List.mem_singleton]
  rintro (h1 | h1)
  · exact h h1
  · exact hx h1.symm
set_option maxHeartbeats 1000000 in
theorem c_has (xs : List Int) (v : Value) (n : Int) (w : World) (B : Nat) (ha : IsInts w B xs v) (hn : xs.length ≤ 2 ^ 47) :
    Calls Tryz.prog 16 #[v, .int .i64 n] w fun e w' => e = .returned (.bool (decide (n ∈ xs))) ∧ w' = w := by
  have HA := Lib.hid ha
  obtain ⟨A, c, rfl, _⟩ := ha
  generalize hl : xs.length = m at *
  have HL := Lib.hid hl
  clear hl
  have HN := Lib.hid (fun (h : ¬ n ∈ xs.take m) => (show decide (n ∈ xs) = false by rw [← HL.out, List.take_length] at h; simpa using h))
  have HY := Lib.hid (fun (h : n ∈ xs) => (show decide (n ∈ xs) = true by simpa using h))
  generalize decide (n ∈ xs) = r at *
  go_enter Tryz.func16, Tryz.ntmps16
  go_wp2
  go_loopw [5] (fun i wr => ∃ (j : Nat), j ≤ m ∧ i = .int .i64 j ∧ wr = w ∧ Hid (¬ n ∈ xs.take j)) (fun i _ => m - (intOf i).toNat)
  case atStart => exact ⟨0, by omega, rfl, rfl, Lib.hid (by simp)⟩
  case round =>
    obtain ⟨j, hj, rfl, rfl, hno⟩ := hrel
    by_cases hjn : j < m
    · obtain ⟨g, o, hj', rfl, _, k1⟩ := HA.out.at_ (w' := wr) (fun _ _ => rfl) hjn
      have hT := mem_take_succ hj' hno.out
      have hM := List.getElem_mem (l := xs) hj'
      have hj0 : (0 : Int) ≤ (j : Int) := by omega
      have hj1 : (j : Int) < (m : Int) := by omega
      generalize xs[j] = x at *
      by_cases hx : x = n
      · subst hx
        have hr := Lib.hid (HY.out hM)
        clear hT hM HY HN HA hno HL
        go_wp2
        go_ret
        exact ⟨ret_bool hr.out.symm, rfl⟩
      · have hx2 : (x == n) = false := by simpa using hx
        have hT2 := Lib.hid (hT hx)
        clear hT hM hx
        go_wp2
        go_roundw
        case rel => exact ⟨j + 1, by omega, by go_num, trivial, hT2⟩
        case measure => simp [intOf]; omega
    · obtain rfl : m = j := by omega
      have hr := Lib.hid (HN.out hno.out)
      go_wp2
      go_ret
      exact ⟨ret_bool hr.out.symm, rfl⟩
end Go.Proofs.YtdjldmpfginkdaaGreatDoor
namespace Go.Proofs.YtdjldmpfginkdaaGreatDoor
open Go.RowKit

theorem ints_blk {W : World} {b n : Nat} {xs : List Int} (h : RowV W b 3 (ints xs)) (hl : xs.length = n) (hn : n ≤ 2 ^ 40) : IsInts W W.heap.size xs (.slice (some ⟨b, 0, none⟩) n n) := by
  subst hl
  refine ⟨_, _, rfl, Nat.le_refl _, by unfold maxLen; omega, by simp, by simp, ?_⟩
  exact Rd.blk (cs := (ints xs).toArray) h (by simp [ints]) h.lt
theorem rows_blk {W : World} {b n : Nat} {ls : List (List Int)} {vs : List Value} {T : TypeId} (h : RowV W b T vs) (hl : ls.length = n) (hv : vs.length = n) (hn : n ≤ 2 ^ 40) (hi : ∀ (i : Nat) (l : List Int) (u : Value), ls[i]? = some l → vs[i]? = some u → IsInts W W.heap.size l u) : IsRows W W.heap.size ls (.slice (some ⟨b, 0, none⟩) n n) := by
  subst hl
  exact ⟨_, _, vs, rfl, Nat.le_refl _, by unfold maxLen; omega, Rd.blk (cs := vs.toArray) h (by simp [hv]) h.lt, hv, hi⟩
theorem blk_eq (W : World) (o : Obj) {n : Nat} (h : W.heap.size = n) : (W.alloc o).heap[n]? = some o := by subst h; exact blk_new _ _
end Go.Proofs.YtdjldmpfginkdaaGreatDoor
