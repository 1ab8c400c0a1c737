/- Contracts of small functions of regcode: usesTick, isZero, classOf.
  Contracts of regcode.shapeOf, toFits, Def. -/
import Derived.Test.YtdjldmpfginkdaaGreatDoorGGraph
import Derived.Test.YtdjldmpfginkdaaGreatDoorGInts
import Derived.Test.YtdjldmpfginkdaaGreatDoorGBase
namespace Go.Proofs.YtdjldmpfginkdaaGreatDoor
open Go.RowKit
attribute [local go_sem ↓] Go.wp_at_zero Go.wp_at_succ

theorem beq_f {a b : Int} (h : ¬ a = b) : (a == b) = false := by rw [beq_eq_false_iff_ne]; exact h

set_option maxHeartbeats 1000000 in
theorem c_usesTick (op : Int) (u1 u2 u3 u4 u5 u6 u7 u8 u9 u10 u11 u12 u13 u14 : Value) (w : World) :
    Calls Tryz.prog 47 #[.agg #[.int .i64 op, u1, u2, u3, u4, u5, u6, u7, u8, u9, u10, u11, u12, u13, u14]] w fun e w' => e = .returned (.bool (oTick op)) ∧ Below w.heap.size w w' := by
  by_cases h19 : op = 19
  case pos =>
    subst h19
    go_enter Tryz.func47, Tryz.ntmps47
    go_wp2
    go_ret
    exact ⟨rfl, below_new _ _⟩
  have k19 := beq_f h19
  by_cases h15 : op = 15
  case pos =>
    subst h15
    go_enter Tryz.func47, Tryz.ntmps47
    go_wp2
    go_ret
    exact ⟨rfl, below_new _ _⟩
  have k15 := beq_f h15
  by_cases h16 : op = 16
  case pos =>
    subst h16
    go_enter Tryz.func47, Tryz.ntmps47
    go_wp2
    go_ret
    exact ⟨rfl, below_new _ _⟩
  have k16 := beq_f h16
  by_cases h27 : op = 27
  case pos =>
    subst h27
    go_enter Tryz.func47, Tryz.ntmps47
    go_wp2
    go_ret
    exact ⟨rfl, below_new _ _⟩
  have k27 := beq_f h27
  by_cases h25 : op = 25
  case pos =>
    subst h25
    go_enter Tryz.func47, Tryz.ntmps47
    go_wp2
    go_ret
    exact ⟨rfl, below_new _ _⟩
  have k25 := beq_f h25
  have hz : oTick op = false := by simp [oTick, *]
  go_enter Tryz.func47, Tryz.ntmps47
  go_wp2
  go_ret
  exact ⟨ret_bool hz.symm, below_new _ _⟩
set_option maxHeartbeats 1000000 in
theorem c_isZero (ck ci : Int) (cs : ByteArray) (EA : Option Addr) (ce ec : Nat) (w : World) :
    Calls Tryz.prog 39 #[.agg #[.int .i64 ck, .int .i64 ci, .string cs, .slice EA ce ec]] w fun e w' => e = .returned (.bool (isZ ck ci cs ce)) ∧ Below w.heap.size w w' := by
  go_enter Tryz.func39, Tryz.ntmps39
  go_wp2
  all_goals
    go_ret
    refine ⟨ret_bool ?_, below_new _ _⟩
    simp_all [isZ, toList_nil]
    try (rw [Bool.eq_iff_iff]; simp)
theorem clsAt_neg {l : List Int} {n : Int} (h : n < 0) : clsAt l n = -1 := by unfold clsAt; rw [if_pos h]
theorem clsAt_ge {l : List Int} {n : Int} (h0 : ¬ n < 0) (h : l.length ≤ n) : clsAt l n = -1 := by unfold clsAt; rw [if_neg h0, List.getElem?_eq_none (by omega)]
theorem clsAt_in {l : List Int} {n : Int} {j : Nat} (h : n = j) (hj : j < l.length) : clsAt l n = l[j] := by subst h; unfold clsAt; rw [if_neg (by omega), Int.toNat_natCast, List.getElem?_eq_getElem hj]
set_option maxHeartbeats 1000000 in
theorem c_classOf (u0 u2 u3 v : Value) (cls : List Int) (n : Int) (w : World) (B : Nat) (hv : IsInts w B cls v) (hB : B ≤ w.heap.size) :
    Calls Tryz.prog 67 #[.agg #[u0, v, u2, u3], .int .i64 n] w fun e w' => e = .returned (.int .i64 (clsAt cls n)) ∧ Below w.heap.size w w' := by
  obtain ⟨A, c, rfl, _, _, _, _, hr⟩ := hv
  have HR := Lib.hid hr
  have hl := HR.out.1
  have H1 := Lib.hid (@clsAt_neg cls n)
  have H2 := Lib.hid (@clsAt_ge cls n)
  have H3 := Lib.hid (fun (j : Nat) (h : n = j) (hj : j < cls.length) => clsAt_in (l := cls) h hj)
  clear hr hl
  by_cases h0 : n < 0
  · go_enter Tryz.func67, Tryz.ntmps67
    go_wp2
    go_ret
    exact ⟨ret_int (H1.out h0).symm, below_new _ _⟩
  by_cases h1 : (cls.length : Int) ≤ n
  · have HL := Lib.hid (H2.out h0 h1)
    clear H1 H2 H3 HR
    generalize cls.length = m at *
    go_enter Tryz.func67, Tryz.ntmps67
    go_wp2
    go_ret
    exact ⟨ret_int HL.out.symm, below_new _ _⟩
  obtain ⟨j, rfl⟩ := Int.eq_ofNat_of_zero_le (show 0 ≤ n by omega)
  have hj : j < cls.length := by omega
  obtain ⟨_, h | ⟨g, o, rfl, hg, hc⟩⟩ := HR.out
  · omega
  have hx : (ints cls)[j]? = some (.int .i64 cls[j]) := by simp [ints, hj]
  have k0 := hc j _ hx
  have k1 : (w.alloc (.cells #[u0, .slice (some ⟨g, o, none⟩) cls.length c, u2, u3] 26)).cell? ⟨g, o + j, none⟩ = some (.int .i64 cls[j]) := (Below.cell (below_new w _) (show g < _ by omega)).trans k0
  have HL := Lib.hid (H3.out j rfl hj)
  clear hc hx k0 H1 H2 H3 HR
  generalize cls[j] = x at *
  have hj1 : (j : Int) < (cls.length : Int) := by omega
  have hj2 : ¬ (cls.length : Int) ≤ (j : Int) := by omega
  generalize cls.length = m at *
  go_enter Tryz.func67, Tryz.ntmps67
  go_wp2
  go_ret
  exact ⟨ret_int HL.out.symm, below_new _ _⟩
end Go.Proofs.YtdjldmpfginkdaaGreatDoor
namespace Go.Proofs.YtdjldmpfginkdaaGreatDoor
open Go.RowKit
attribute [local go_sem ↓] Go.wp_at_zero Go.wp_at_succ

/-- The table of shapes is laid. -/
def EnvS (w : World) (G : Nat) : Prop := 0 < G ∧ ∃ gs os cs, w.cell? ⟨0, 0, none⟩ = some (.slice (some ⟨gs, os, none⟩) 28 cs) ∧ gs < G ∧ ∀ j : Nat, j < 28 →
  w.cell? ⟨gs, os + j * 8, none⟩ = some (.bool (oD j)) ∧ w.cell? ⟨gs, os + j * 8 + 1, none⟩ = some (.bool (oA j)) ∧ w.cell? ⟨gs, os + j * 8 + 2, none⟩ = some (.bool (oB j 0)) ∧ w.cell? ⟨gs, os + j * 8 + 3, none⟩ = some (.bool (oI j)) ∧
  w.cell? ⟨gs, os + j * 8 + 4, none⟩ = some (.bool (oN j)) ∧ w.cell? ⟨gs, os + j * 8 + 5, none⟩ = some (.bool (oL j)) ∧ w.cell? ⟨gs, os + j * 8 + 6, none⟩ = some (.bool (oT j)) ∧ w.cell? ⟨gs, os + j * 8 + 7, none⟩ = some (.bool (oC j))
theorem EnvS.below {w w' : World} {G C : Nat} (h : EnvS w G) (hb : Below C w w') (hG : G ≤ C) : EnvS w' G := by
  obtain ⟨h1, gs, os, cs, h2, h3, h4⟩ := h
  have hc : ∀ (b i : Nat), b < G → w'.cell? ⟨b, i, none⟩ = w.cell? ⟨b, i, none⟩ := fun b i hb' => hb.cell (p := ⟨b, i, none⟩) (show b < C by omega)
  refine ⟨h1, gs, os, cs, (hc _ _ h1).trans h2, h3, fun j hj => ?_⟩
  obtain ⟨a0, a1, a2, a3, a4, a5, a6, a7⟩ := h4 j hj
  exact ⟨(hc _ _ h3).trans a0, (hc _ _ h3).trans a1, (hc _ _ h3).trans a2, (hc _ _ h3).trans a3, (hc _ _ h3).trans a4, (hc _ _ h3).trans a5, (hc _ _ h3).trans a6, (hc _ _ h3).trans a7⟩
theorem out_all {op : Int} (imm : Int) (h : op < 1 ∨ 27 < op) : oD op = false ∧ oA op = false ∧ oB op imm = false ∧ oI op = false ∧ oN op = false ∧ oL op = false ∧ oT op = false ∧ oC op = false := by
  simp only [oD, oA, oB, oI, oN, oL, oT, oC, decide_eq_false_iff_not]
  omega
theorem oB_8 (op imm : Int) : oB op imm = if (op = 8 ∧ imm = 5) then false else oB op 0 := by
  by_cases h : op = 8 ∧ imm = 5
  · rw [if_pos h]; simp only [oB, decide_eq_false_iff_not]; omega
  · rw [if_neg h, Bool.eq_iff_iff]; simp only [oB, decide_eq_true_eq]; omega

def ShpR (op imm : Int) (w : World) (e : Ending) (w' : World) : Prop := e = .returned (.tuple #[.agg #[.bool (oD op), .bool (oA op), .bool (oB op imm), .bool (oI op), .bool (oN op), .bool (oL op), .bool (oT op), .bool (oC op)], .bool (decide (1 ≤ op ∧ op ≤ 27))]) ∧ Below w.heap.size w w'
set_option maxRecDepth 20000 in
set_option maxHeartbeats 2000000 in
theorem c_shapeOf (op imm : Int) (u1 u2 u3 u5 u6 u7 u8 u9 u10 u11 u12 u13 u14 : Value) (w : World) (G : Nat) (hE : EnvS w G) (hG : G ≤ w.heap.size) :
    Calls Tryz.prog 30 #[.agg #[.int .i64 op, u1, u2, u3, .int .i64 imm, u5, u6, u7, u8, u9, u10, u11, u12, u13, u14]] w (ShpR op imm w) := by
  by_cases h0 : op < 1 ∨ 27 < op
  · have HF : Hid (∀ W : World, Below w.heap.size w W → ShpR op imm w (.returned (.tuple #[.agg #[.bool false, .bool false, .bool false, .bool false, .bool false, .bool false, .bool false, .bool false], .bool false])) W) := Lib.hid (fun W hW => by
      obtain ⟨a0, a1, a2, a3, a4, a5, a6, a7⟩ := out_all imm h0
      have a8 : decide (1 ≤ op ∧ op ≤ 27) = false := by rw [decide_eq_false_iff_not]; omega
      exact ⟨by rw [a0, a1, a2, a3, a4, a5, a6, a7, a8], hW⟩)
    rcases h0 with h0 | h0
    · go_enter Tryz.func30, Tryz.ntmps30
      go_wp2
      go_returns
      exact HF.out _ (below_step (below_new _ _) (below_new _ _))
    · have h1 : ¬ op < 1 := by omega
      go_enter Tryz.func30, Tryz.ntmps30
      go_wp2
      go_returns
      exact HF.out _ (below_step (below_new _ _) (below_new _ _))
  · have h1 : ¬ op < 1 := by omega
    have h2 : ¬ 27 < op := by omega
    obtain ⟨j, rfl⟩ := Int.eq_ofNat_of_zero_le (show 0 ≤ op by omega)
    obtain ⟨hg0, gs, os, cs, hs, hgs, hcs⟩ := hE
    obtain ⟨a0, a1, a2, a3, a4, a5, a6, a7⟩ := hcs j (by omega)
    have HF : Hid (∀ (W : World) (b : Bool), Below w.heap.size w W → b = oB j imm → ShpR j imm w (.returned (.tuple #[.agg #[.bool (oD j), .bool (oA j), .bool b, .bool (oI j), .bool (oN j), .bool (oL j), .bool (oT j), .bool (oC j)], .bool true])) W) := Lib.hid (fun W b hW hb => by
      have a8 : decide (1 ≤ (j : Int) ∧ (j : Int) ≤ 27) = true := by rw [decide_eq_true_eq]; omega
      exact ⟨by rw [hb, a8], hW⟩)
    have HB8 := Lib.hid (oB_8 j imm)
    have hj0 : (0 : Int) ≤ (j : Int) := by omega
    have hj1 : (j : Int) < 28 := by omega
    have HC : Hid (∀ (W : World), Below w.heap.size w W → W.cell? ⟨0, 0, none⟩ = some (.slice (some ⟨gs, os, none⟩) 28 cs) ∧ W.cell? ⟨gs, os + j * 8, none⟩ = some (.bool (oD j)) ∧ W.cell? ⟨gs, os + j * 8 + 1, none⟩ = some (.bool (oA j)) ∧ W.cell? ⟨gs, os + j * 8 + 2, none⟩ = some (.bool (oB j 0)) ∧ W.cell? ⟨gs, os + j * 8 + 3, none⟩ = some (.bool (oI j)) ∧
        W.cell? ⟨gs, os + j * 8 + 4, none⟩ = some (.bool (oN j)) ∧ W.cell? ⟨gs, os + j * 8 + 5, none⟩ = some (.bool (oL j)) ∧ W.cell? ⟨gs, os + j * 8 + 6, none⟩ = some (.bool (oT j)) ∧ W.cell? ⟨gs, os + j * 8 + 7, none⟩ = some (.bool (oC j))) := Lib.hid (fun W hW => by
      have hc : ∀ (b i : Nat), b < w.heap.size → W.cell? ⟨b, i, none⟩ = w.cell? ⟨b, i, none⟩ := fun b i hb' => hW.cell (p := ⟨b, i, none⟩) hb'
      exact ⟨(hc _ _ (by omega)).trans hs, (hc _ _ (by omega)).trans a0, (hc _ _ (by omega)).trans a1, (hc _ _ (by omega)).trans a2, (hc _ _ (by omega)).trans a3, (hc _ _ (by omega)).trans a4, (hc _ _ (by omega)).trans a5, (hc _ _ (by omega)).trans a6, (hc _ _ (by omega)).trans a7⟩)
    clear hs hcs a0 a1 a2 a3 a4 a5 a6 a7
    obtain ⟨hs, a0, a1, a2, a3, a4, a5, a6, a7⟩ := HC.out _ (below_step (below_new w (.cells #[.int .i64 (j : Int), u1, u2, u3, .int .i64 imm, u5, u6, u7, u8, u9, u10, u11, u12, u13, u14] 38)) (below_new _ (.cells #[.bool false, .bool false, .bool false, .bool false, .bool false, .bool false, .bool false, .bool false] 65)))
    generalize oD j = x0, oA j = x1, oB j 0 = x2, oI j = x3, oN j = x4, oL j = x5, oT j = x6, oC j = x7 at *
    by_cases h8 : (j : Int) = 8
    · have k8 : ((j : Int) == 8) = true := by rw [beq_iff_eq]; exact h8
      by_cases h5 : imm = 5
      · have k5 : (imm == 5) = true := by rw [beq_iff_eq]; exact h5
        have HB := Lib.hid (HB8.out.trans (if_pos ⟨h8, h5⟩))
        clear HC h8 h5 HB8
        go_enter Tryz.func30, Tryz.ntmps30
        go_wp2
        go_returns
        exact HF.out _ _ (below_step (below_step (below_new _ _) (below_new _ _)) (below_new _ _)) HB.out.symm
      · have k5 : (imm == 5) = false := beq_f h5
        have HB := Lib.hid (HB8.out.trans (if_neg (fun h => h5 h.2)))
        clear HC h8 h5 HB8
        go_enter Tryz.func30, Tryz.ntmps30
        go_wp2
        go_returns
        exact HF.out _ _ (below_step (below_step (below_new _ _) (below_new _ _)) (below_new _ _)) HB.out.symm
    · have k8 : ((j : Int) == 8) = false := beq_f h8
      have HB := Lib.hid (HB8.out.trans (if_neg (fun h => h8 h.1)))
      clear HC h8 HB8
      go_enter Tryz.func30, Tryz.ntmps30
      go_wp2
      go_returns
      exact HF.out _ _ (below_step (below_step (below_new _ _) (below_new _ _)) (below_new _ _)) HB.out.symm

set_option maxHeartbeats 2000000 in
theorem c_Def (op dst imm : Int) (u2 u3 u5 u6 u7 u8 u9 u10 u11 u12 u13 u14 : Value) (w : World) (G : Nat) (hE : EnvS w G) (hG : G ≤ w.heap.size) :
    Calls Tryz.prog 13 #[.agg #[.int .i64 op, .int .i64 dst, u2, u3, .int .i64 imm, u5, u6, u7, u8, u9, u10, u11, u12, u13, u14]] w fun e w' => e = .returned (.tuple #[.int .i64 (if oD op = true then dst else 0), .bool (oD op)]) ∧ Below w.heap.size w w' := by
  have HS := Lib.hid (fun (W : World) (hW : Below w.heap.size w W) => c_shapeOf op imm (.int .i64 dst) u2 u3 u5 u6 u7 u8 u9 u10 u11 u12 u13 u14 W G (hE.below hW hG) (Nat.le_trans hG hW.size))
  clear hE
  have HW : Hid (∀ W w1 : World, W = w.alloc (.cells #[.int .i64 op, .int .i64 dst, u2, u3, .int .i64 imm, u5, u6, u7, u8, u9, u10, u11, u12, u13, u14] 38) → Below W.heap.size W w1 → Below w.heap.size w w1 ∧ w1.cell? ⟨w.heap.size, 1, none⟩ = some (.int .i64 dst) ∧ w.heap.size < w1.heap.size) := Lib.hid (fun W w1 hW hb => by
    subst hW
    refine ⟨below_step (below_new _ _) hb, (hb.cell (p := ⟨w.heap.size, 1, none⟩) (by simp)).trans ?_, Nat.lt_of_lt_of_le (by simp) hb.size⟩
    rw [cell_of_row _ w.heap.size 1 _ _ _ (blk_new _ _)]; rfl)
  unfold ShpR at HS
  generalize oD op = x0, oA op = x1, oB op imm = x2, oI op = x3, oN op = x4, oL op = x5, oT op = x6, oC op = x7, decide (1 ≤ op ∧ op ≤ 27) = x8 at *
  cases x0
  all_goals
    simp only [if_true, if_false, Bool.false_eq_true]
    go_enter Tryz.func13, Tryz.ntmps13
    go_wp2_with fail
    refine (HS.out _ (below_new _ _)).mono ?_
    rintro e w1 ⟨rfl, hb1⟩
    obtain ⟨hbw, hc, hlt⟩ := HW.out _ w1 rfl hb1
    clear HS HW hb1
    go_wp2
    go_returns
    exact ⟨rfl, below_step hbw (below_new _ _)⟩
end Go.Proofs.YtdjldmpfginkdaaGreatDoor
