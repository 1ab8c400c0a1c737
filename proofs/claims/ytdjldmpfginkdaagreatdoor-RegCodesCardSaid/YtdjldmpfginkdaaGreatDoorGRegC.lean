/- Contracts of regcode.isIdent, isLiteral; telref22.plainText.
  Contracts of telref22.plainText; telref25.ticks, zeroConst, zeroType, classOf, immFits. -/
import Derived.Test.YtdjldmpfginkdaaGreatDoorGRegA
import Derived.Test.YtdjldmpfginkdaaGreatDoorGPlain
namespace Go.Proofs.YtdjldmpfginkdaaGreatDoor
open Go.RowKit
attribute [local go_sem ↓] Go.wp_at_zero Go.wp_at_succ

def IdTo (s : ByteArray) (j : Nat) : Prop := everyTo s j = true ∧ (0 < j → isLet (byteI (s.data.getD 0 0)) = true)
theorem okB_iff (c : UInt8) : okB (byteI c) = true ↔ ((97 ≤ (c.toNat : Int) ∧ (c.toNat : Int) ≤ 122) ∨ (65 ≤ (c.toNat : Int) ∧ (c.toNat : Int) ≤ 90) ∨ (c.toNat : Int) = 95 ∨ (48 ≤ (c.toNat : Int) ∧ (c.toNat : Int) ≤ 57)) := by
  show ((decide (97 ≤ (c.toNat : Int) ∧ (c.toNat : Int) ≤ 122 ∨ 65 ≤ (c.toNat : Int) ∧ (c.toNat : Int) ≤ 90) || decide (48 ≤ (c.toNat : Int) ∧ (c.toNat : Int) ≤ 57) || (c.toNat : Int) == 95 || (c.toNat : Int) == 45) && (c.toNat : Int) != 45) = true ↔ _
  simp only [Bool.and_eq_true, Bool.or_eq_true, decide_eq_true_eq, beq_iff_eq, bne_iff_ne]
  omega
theorem let_iff (c : UInt8) : isLet (byteI c) = true ↔ ((97 ≤ (c.toNat : Int) ∧ (c.toNat : Int) ≤ 122) ∨ (65 ≤ (c.toNat : Int) ∧ (c.toNat : Int) ≤ 90)) := by
  show decide (97 ≤ (c.toNat : Int) ∧ (c.toNat : Int) ≤ 122 ∨ 65 ≤ (c.toNat : Int) ∧ (c.toNat : Int) ≤ 90) = true ↔ _
  rw [decide_eq_true_eq]
theorem idTo_succ {s : ByteArray} {j : Nat} (h : IdTo s j) (hj : j < s.size) (hc : (97 ≤ (s[j].toNat : Int) ∧ (s[j].toNat : Int) ≤ 122) ∨ (65 ≤ (s[j].toNat : Int) ∧ (s[j].toNat : Int) ≤ 90) ∨ (0 < j ∧ ((s[j].toNat : Int) = 95 ∨ (48 ≤ (s[j].toNat : Int) ∧ (s[j].toNat : Int) ≤ 57)))) : IdTo s (j + 1) := by
  refine ⟨?_, fun _ => ?_⟩
  · rw [everyTo_succ s j hj, h.1, Bool.true_and]
    rw [okB_iff]
    omega
  · by_cases h0 : 0 < j
    · exact h.2 h0
    · obtain rfl : j = 0 := by omega
      rw [byteI_at s hj, let_iff]
      omega
theorem id_bad {s : ByteArray} {j : Nat} (hj : j < s.size) (hc : ¬ ((97 ≤ (s[j].toNat : Int) ∧ (s[j].toNat : Int) ≤ 122) ∨ (65 ≤ (s[j].toNat : Int) ∧ (s[j].toNat : Int) ≤ 90) ∨ (0 < j ∧ ((s[j].toNat : Int) = 95 ∨ (48 ≤ (s[j].toNat : Int) ∧ (s[j].toNat : Int) ≤ 57))))) : isIdent s = false := by
  by_cases h0 : 0 < j
  · have : okB (byteI s[j]) = false := by
      rw [← Bool.not_eq_true, okB_iff]
      omega
    simp [isIdent, everyTo_false s j hj this]
  · obtain rfl : j = 0 := by omega
    have : isLet (byteI (s.data.getD 0 0)) = false := by
      rw [byteI_at s hj, ← Bool.not_eq_true, let_iff]
      omega
    unfold isIdent
    rw [this, Bool.and_false, Bool.false_and]
theorem id_end {s : ByteArray} (h : IdTo s s.size) (h1 : 0 < s.size) (h2 : s.size ≤ 24) : isIdent s = true := by
  simp only [isIdent, everyB, h.1, h.2 h1, Bool.and_true, decide_eq_true_eq]
  omega

set_option maxHeartbeats 4000000 in
theorem c_rcIsIdent (s : ByteArray) (w : World) : Calls Tryz.prog 44 #[.string s] w fun e w' => e = .returned (.bool (isIdent s)) ∧ w = w' := by
  by_cases h0 : s.size = 0
  · have hf : Hid (isIdent s = false) := Lib.hid (by simp [isIdent, h0])
    have hz := (toList_nil s).2 h0
    go_enter Tryz.func44, Tryz.ntmps44
    go_wp2
    go_ret
    exact ⟨ret_bool hf.out.symm, rfl⟩
  have hz : ¬ s.toList = [] := fun e => h0 ((toList_nil s).1 e)
  have hze : s.toList.isEmpty = false := by cases h : s.toList.isEmpty
                                            · rfl
                                            · exact absurd (List.isEmpty_iff.1 h) hz
  clear hz
  by_cases h24 : 24 < s.size
  · have hf : Hid (isIdent s = false) := Lib.hid (by simp [isIdent]; omega)
    have h24' : (24 : Int) < (s.size : Int) := by omega
    go_enter Tryz.func44, Tryz.ntmps44
    go_wp2
    all_goals
      go_ret
      exact ⟨ret_bool hf.out.symm, rfl⟩
  have h24' : ¬ (24 : Int) < (s.size : Int) := by omega
  have HE := Lib.hid (fun (h : IdTo s s.size) => id_end h (by omega) (by omega))
  go_enter Tryz.func44, Tryz.ntmps44
  go_wp2
  go_loopw [3, 4, 5] (fun s3 _ _ wr => ∃ j : Nat, j ≤ s.size ∧ s3 = .int .i64 j ∧ Hid (IdTo s j) ∧ Hid (w = wr)) (fun i _ _ _ => s.size - (intOf i).toNat)
  case atStart => exact ⟨0, by omega, rfl, Lib.hid ⟨everyTo_zero s, fun h => by omega⟩, Lib.hid rfl⟩
  case round =>
    obtain ⟨j, hj, rfl, H, HW⟩ := hrel
    by_cases hlt : j < s.size
    · have HS := Lib.hid (fun hc => idTo_succ H.out hlt hc)
      have HB := Lib.hid (fun hc => id_bad hlt hc)
      have hj0 : (0 : Int) ≤ (j : Int) := by omega
      have hj1 : (j : Int) < (s.size : Int) := by omega
      by_cases hj00 : j = 0
      · subst hj00
        go_wp2
        all_goals
          first
          | (go_ret; exact ⟨ret_bool (HB.out (by omega)).symm, HW.out⟩)
          | (exfalso; simp only [Bool.not_eq_false', decide_eq_true_eq] at *; omega)
          | (exfalso; clear HS HB HE H HW; simp at *; omega)
          | (exfalso; clear HS HB HE H HW; simp at *; done)
          | (exfalso; clear HS HB HE H HW; simp_all; done)
          | (go_roundw
             case rel => exact ⟨_, hlt, by go_num, Lib.hid (HS.out (by first | omega | (simp only [bne_eq_false_iff_eq] at *; omega))), HW⟩
             case measure => (simp [intOf]; omega))
      · have kj : ((j : Int) == 0) = false := beq_f (by omega)
        go_wp2
        all_goals
          first
          | (go_ret; exact ⟨ret_bool (HB.out (by omega)).symm, HW.out⟩)
          | (exfalso; simp only [Bool.not_eq_false', decide_eq_true_eq] at *; omega)
          | (exfalso; clear HS HB HE H HW; simp at *; omega)
          | (exfalso; clear HS HB HE H HW; simp at *; done)
          | (exfalso; clear HS HB HE H HW; simp_all; done)
          | (go_roundw
             case rel => exact ⟨_, hlt, by go_num, Lib.hid (HS.out (by first | omega | (simp only [bne_eq_false_iff_eq] at *; omega))), HW⟩
             case measure => (simp [intOf]; omega))
    · obtain rfl : j = s.size := by omega
      have HZ := Lib.hid (HE.out H.out)
      go_wp2
      go_ret
      exact ⟨ret_bool HZ.out.symm, HW.out⟩
theorem litF_elems {ck ci : Int} {cs : ByteArray} {ce : Nat} (h : 0 < ce) : litF ck ci cs ce = false := by
  have : decide (ce = 0) = false := by rw [decide_eq_false_iff_not]; omega
  simp [litF, this]
theorem litF_three {ci : Int} {cs : ByteArray} : litF 3 ci cs 0 = (decide (ci = 0 ∧ cs.size ≤ 2000) && txtB cs) := by simp [litF]
set_option maxHeartbeats 4000000 in
theorem c_isLiteral (ck ci : Int) (cs : ByteArray) (EA : Option Addr) (ce ec : Nat) (w : World) :
    Calls Tryz.prog 43 #[.agg #[.int .i64 ck, .int .i64 ci, .string cs, .slice EA ce ec]] w fun e w' => e = .returned (.bool (litF ck ci cs ce)) ∧ Below w.heap.size w w' := by
  by_cases hce : 0 < ce
  · have hf := Lib.hid (litF_elems (ck := ck) (ci := ci) (cs := cs) hce)
    have hce' : (0 : Int) < (ce : Int) := by omega
    go_enter Tryz.func43, Tryz.ntmps43
    go_wp2
    all_goals
      go_ret
      exact ⟨ret_bool hf.out.symm, below_new _ _⟩
  obtain rfl : ce = 0 := by omega
  by_cases h3 : ck = 3
  · subst h3
    rw [litF_three]
    have HL1 : Hid (¬ ci = 0 → (decide (ci = 0 ∧ cs.size ≤ 2000) && txtB cs) = false) := Lib.hid (fun h => by simp [h])
    have HL2 : Hid (2000 < cs.size → (decide (ci = 0 ∧ cs.size ≤ 2000) && txtB cs) = false) := Lib.hid (fun h => by
      have : decide (ci = 0 ∧ cs.size ≤ 2000) = false := by rw [decide_eq_false_iff_not]; omega
      rw [this, Bool.false_and])
    have HL3 : Hid (∀ b, ci = 0 → ¬ 2000 < cs.size → txtB cs = b → (decide (ci = 0 ∧ cs.size ≤ 2000) && txtB cs) = b) := Lib.hid (fun b h1 h2 hb => by
      have : decide (ci = 0 ∧ cs.size ≤ 2000) = true := by rw [decide_eq_true_eq]; omega
      rw [this, Bool.true_and, hb])
    generalize (decide (ci = 0 ∧ cs.size ≤ 2000) && txtB cs) = L at *
    by_cases hci : ci = 0
    case neg =>
      have hf := Lib.hid (HL1.out hci)
      have kci := beq_f hci
      go_enter Tryz.func43, Tryz.ntmps43
      go_wp2
      all_goals
        go_ret
        exact ⟨ret_bool hf.out.symm, below_new _ _⟩
    by_cases hsz : 2000 < cs.size
    · have hf := Lib.hid (HL2.out hsz)
      have hsz' : (2000 : Int) < (cs.size : Int) := by omega
      go_enter Tryz.func43, Tryz.ntmps43
      go_wp2
      all_goals
        go_ret
        exact ⟨ret_bool hf.out.symm, below_new _ _⟩
    have HE := Lib.hid (fun b => HL3.out b hci hsz)
    subst hci
    have hsz' : ¬ (2000 : Int) < (cs.size : Int) := by omega
    have HW : Hid (∀ W : World, W = w.alloc (.cells #[.int .i64 3, .int .i64 0, .string cs, .slice EA 0 ec] 36) → W.cell? ⟨w.heap.size, 2, none⟩ = some (.string cs) ∧ Below w.heap.size w W) := Lib.hid (fun W hW => by
      subst hW
      exact ⟨by rw [cell_of_row _ w.heap.size 2 _ _ _ (blk_new _ _)]; rfl, below_new _ _⟩)
    clear HL1 HL2 HL3
    go_enter Tryz.func43, Tryz.ntmps43
    go_wp2
    generalize hWW : w.alloc _ = W
    obtain ⟨hcell, hbW⟩ := HW.out W hWW.symm
    clear hWW HW
    go_loopw [3] (fun s3 wr => ∃ j : Nat, j ≤ cs.size ∧ s3 = .int .i64 j ∧ Hid (txtTo cs j = true) ∧ Hid (W = wr)) (fun i _ => cs.size - (intOf i).toNat)
    case atStart => exact ⟨0, by omega, rfl, Lib.hid (txtTo_zero cs), Lib.hid rfl⟩
    case round =>
      obtain ⟨j, hj, rfl, H, HQ⟩ := hrel
      have e := HQ.out
      subst e
      by_cases hlt : j < cs.size
      · have hj0 : (0 : Int) ≤ (j : Int) := by omega
        have hj1 : (j : Int) < (cs.size : Int) := by omega
        have HT := Lib.hid (txtTo_succ cs j hlt)
        have HB := Lib.hid (fun hc => HE.out false (txtTo_false cs j hlt hc))
        go_wp2
        all_goals
          first
          | (go_ret; exact ⟨ret_bool (HB.out (by omega)).symm, hbW⟩)
          | (go_roundw
             case rel => exact ⟨j + 1, by omega, by go_num, Lib.hid (by rw [HT.out, H.out, Bool.true_and, decide_eq_true_eq]; omega), by first | exact HQ | exact Lib.hid trivial⟩
             case measure => (simp [intOf]; omega))
      · obtain rfl : j = cs.size := by omega
        have HZ := Lib.hid (HE.out true H.out)
        go_wp2
        go_ret
        exact ⟨ret_bool HZ.out.symm, hbW⟩
  · have k3 := beq_f h3
    go_enter Tryz.func43, Tryz.ntmps43
    go_wp2
    all_goals
      go_ret
      refine ⟨ret_bool ?_, below_new _ _⟩
      simp_all [litF, toList_nil]
      try (rw [Bool.eq_iff_iff]; simp [toList_nil]; try omega)
end Go.Proofs.YtdjldmpfginkdaaGreatDoor
namespace Go.Proofs.YtdjldmpfginkdaaGreatDoor
open Go.RowKit
attribute [local go_sem ↓] Go.wp_at_zero Go.wp_at_succ

set_option maxHeartbeats 2000000 in
theorem c_plainText (s : ByteArray) (w : World) (hs : s.size ≤ 2 ^ 47) : Calls Tryz.prog 72 #[.string s] w fun e w' => e = .returned (.bool (decide (s.size ≤ 2000) && txtB s)) ∧ w = w' := by
  have HF : Hid (txtB s = false → (decide (s.size ≤ 2000) && txtB s) = false) := Lib.hid (fun h => by rw [h, Bool.and_false])
  have HT : Hid (txtB s = true → (decide (s.size ≤ 2000) && txtB s) = decide ((s.size : Int) ≤ 2000)) := Lib.hid (fun h => by rw [h, Bool.and_true, Bool.eq_iff_iff]; simp only [decide_eq_true_eq]; omega)
  generalize (decide (s.size ≤ 2000) && txtB s) = L at *
  go_enter Tryz.func72, Tryz.ntmps72
  go_wp2
  go_loopw [3] (fun s3 wr => ∃ j : Nat, j ≤ s.size ∧ s3 = .int .i64 j ∧ Hid (txtTo s j = true) ∧ Hid (w = wr)) (fun i _ => s.size - (intOf i).toNat)
  case atStart => exact ⟨0, by omega, rfl, Lib.hid (txtTo_zero s), Lib.hid rfl⟩
  case round =>
    obtain ⟨j, hj, rfl, H, HQ⟩ := hrel
    by_cases hlt : j < s.size
    · have hj0 : (0 : Int) ≤ (j : Int) := by omega
      have hj1 : (j : Int) < (s.size : Int) := by omega
      have HTS := Lib.hid (txtTo_succ s j hlt)
      have HB := Lib.hid (fun hc => HF.out (txtTo_false s j hlt hc))
      go_wp2
      all_goals
        first
        | (go_ret; exact ⟨ret_bool (HB.out (by omega)).symm, HQ.out⟩)
        | (go_roundw
           case rel => exact ⟨j + 1, by omega, by go_num, Lib.hid (by rw [HTS.out, H.out, Bool.true_and, decide_eq_true_eq]; omega), HQ⟩
           case measure => (simp [intOf]; omega))
    · obtain rfl : j = s.size := by omega
      have HZ := Lib.hid (HT.out H.out)
      go_wp2
      go_ret
      exact ⟨ret_bool HZ.out.symm, HQ.out⟩
set_option maxHeartbeats 1000000 in
theorem c_ticks (op : Int) (w : World) : Calls Tryz.prog 57 #[.int .i64 op] w fun e w' => e = .returned (.bool (oTick op)) ∧ w = w' := by
  go_enter Tryz.func57, Tryz.ntmps57
  go_wp2
  all_goals
    go_ret
    refine ⟨ret_bool ?_, rfl⟩
    simp_all [oTick]
    try (rw [Bool.eq_iff_iff]; simp; try omega)
set_option maxHeartbeats 1000000 in
theorem c_zeroConst (ck ci : Int) (cs : ByteArray) (EA : Option Addr) (ce ec : Nat) (w : World) :
    Calls Tryz.prog 70 #[.agg #[.int .i64 ck, .int .i64 ci, .string cs, .slice EA ce ec]] w fun e w' => e = .returned (.bool (isZ ck ci cs ce)) ∧ Below w.heap.size w w' := by
  go_enter Tryz.func70, Tryz.ntmps70
  go_wp2
  all_goals
    go_ret
    refine ⟨ret_bool ?_, below_new _ _⟩
    simp_all [isZ, toList_nil]
    try (rw [Bool.eq_iff_iff]; simp)
set_option maxHeartbeats 1000000 in
theorem c_zeroType (tk ti : Int) (tn : ByteArray) (TA : Option Addr) (tl tc : Nat) (w : World) :
    Calls Tryz.prog 69 #[.agg #[.int .i64 tk, .string tn, .int .i64 ti, .slice TA tl tc]] w fun e w' => e = .returned (.bool (decide (tk = 0 ∧ tn.size = 0 ∧ ti = 0 ∧ tl = 0))) ∧ Below w.heap.size w w' := by
  go_enter Tryz.func69, Tryz.ntmps69
  go_wp2
  all_goals
    go_ret
    refine ⟨ret_bool ?_, below_new _ _⟩
    simp_all [toList_nil]
    try (rw [Bool.eq_iff_iff]; simp)
set_option maxHeartbeats 1000000 in
theorem c_classOf25 (u0 u2 u3 v : Value) (cls : List Int) (n : Int) (w : World) (B : Nat) (hv : IsInts w B cls v) (hB : B ≤ w.heap.size) :
    Calls Tryz.prog 71 #[.agg #[u0, v, u2, u3], .int .i64 n] w fun e w' => e = .returned (.int .i64 (clsAt cls n)) ∧ Below w.heap.size w w' := by
  obtain ⟨A, c, rfl, _, _, _, _, hr⟩ := hv
  have HR := Lib.hid hr
  have hl := HR.out.1
  have H1 := Lib.hid (@clsAt_neg cls n)
  have H2 := Lib.hid (@clsAt_ge cls n)
  have H3 := Lib.hid (fun (j : Nat) (h : n = j) (hj : j < cls.length) => clsAt_in (l := cls) h hj)
  clear hr hl
  by_cases h0 : n < 0
  · go_enter Tryz.func71, Tryz.ntmps71
    go_wp2
    go_ret
    exact ⟨ret_int (H1.out h0).symm, below_new _ _⟩
  by_cases h1 : (cls.length : Int) ≤ n
  · have HL := Lib.hid (H2.out h0 h1)
    clear H1 H2 H3 HR
    generalize cls.length = m at *
    go_enter Tryz.func71, Tryz.ntmps71
    go_wp2
    go_ret
    exact ⟨ret_int HL.out.symm, below_new _ _⟩
  obtain ⟨j, rfl⟩ := Int.eq_ofNat_of_zero_le (show 0 ≤ n by omega)
  have hj : j < cls.length := by omega
  obtain ⟨_, h | ⟨g, o, rfl, hg, hc⟩⟩ := HR.out
  · omega
  have hx : (ints cls)[j]? = some (.int .i64 cls[j]) := by simp [ints, hj]
  have k0 := hc j _ hx
  have k1 : (w.alloc (.cells #[u0, .slice (some ⟨g, o, none⟩) cls.length c, u2, u3] 26)).cell? ⟨g, o + j, none⟩ = some (.int .i64 cls[j]) := (Below.cell (below_new w _) (show g < _ by omega)).trans k0
  have HL := Lib.hid (H3.out j rfl hj)
  clear hc hx k0 H1 H2 H3 HR
  generalize cls[j] = x at *
  have hj1 : (j : Int) < (cls.length : Int) := by omega
  have hj2 : ¬ (cls.length : Int) ≤ (j : Int) := by omega
  generalize cls.length = m at *
  go_enter Tryz.func71, Tryz.ntmps71
  go_wp2
  go_ret
  exact ⟨ret_int HL.out.symm, below_new _ _⟩
def FldR (op imm : Int) (w : World) (e : Ending) (w' : World) : Prop := e = .returned (.agg #[.bool (oD op), .bool (oA op), .bool (oB op imm), .bool (oI op), .bool (oN op), .bool (oL op), .bool (oT op), .bool (oC op)]) ∧ Below w.heap.size w w'
set_option maxRecDepth 20000 in
set_option maxHeartbeats 8000000 in
theorem c_fieldsOf (op imm : Int) (u1 u2 u3 u5 u6 u7 u8 u9 u10 u11 u12 u13 u14 : Value) (w : World) :
    Calls Tryz.prog 48 #[.agg #[.int .i64 op, u1, u2, u3, .int .i64 imm, u5, u6, u7, u8, u9, u10, u11, u12, u13, u14]] w (FldR op imm w) := by
  have HF : Hid (∀ (W : World) (b0 b1 b2 b3 b4 b5 b6 b7 : Bool), Below w.heap.size w W → (b0 = oD op ∧ b1 = oA op ∧ b2 = oB op imm ∧ b3 = oI op ∧ b4 = oN op ∧ b5 = oL op ∧ b6 = oT op ∧ b7 = oC op) → FldR op imm w (.returned (.agg #[.bool b0, .bool b1, .bool b2, .bool b3, .bool b4, .bool b5, .bool b6, .bool b7])) W) := Lib.hid (fun W b0 b1 b2 b3 b4 b5 b6 b7 hW ⟨h0, h1, h2, h3, h4, h5, h6, h7⟩ => ⟨by rw [h0, h1, h2, h3, h4, h5, h6, h7], hW⟩)
  go_enter Tryz.func48, Tryz.ntmps48
  go_wp2
  all_goals
    go_returns
    refine HF.out _ _ _ _ _ _ _ _ _ (below_step (below_new _ _) (below_new _ _)) ?_
    clear HF
    simp_all [oD, oA, oB, oI, oN, oL, oT, oC]
    try first | omega | (rw [Bool.eq_iff_iff]; simp)
end Go.Proofs.YtdjldmpfginkdaaGreatDoor
