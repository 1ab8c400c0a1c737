/- The walk of tellaw27.RegHeaders: it returns true. -/
import Derived.Test.YtdjldmpfginkdaaGreatDoorGHead
import Derived.Test.YtdjldmpfginkdaaGreatDoorGUses
import Derived.Test.YtdjldmpfginkdaaGreatDoorGSane
import Derived.Test.YtdjldmpfginkdaaGreatDoorVal2
import Derived.Deep.RegionHeld3
import Derived.Deep.CutRange
import Derived.RegionTactic
namespace Go.Proofs.YtdjldmpfginkdaaGreatDoor
open Go.RowKit
attribute [local go_sem ↓] Go.wp_at_zero Go.wp_at_succ

theorem heads_both (q : Rc) (cls : Value) (IA : Option Addr) (ic : Nat) (DA : Option Addr) (dc : Nat) (w : World) (G : Nat) (hr : RcAt w w.heap.size q cls IA ic) (hE : EnvS w G) (hR : EnvR w G) (hG : G ≤ w.heap.size) :
    ∃ z : Int, (∀ W : World, Below w.heap.size w W → Calls Tryz.prog 9 #[.agg #[.int .i64 q.params, cls, .slice IA q.instrs.length ic, .slice DA q.edits dc]] W fun e w' => e = .returned (.int .i64 z) ∧ Below W.heap.size W w') ∧
      (∀ W : World, Below w.heap.size w W → Calls Tryz.prog 10 #[.agg #[.int .i64 q.params, cls, .slice IA q.instrs.length ic, .slice DA q.edits dc]] W fun e w' => e = .returned (.int .i64 z) ∧ Below W.heap.size W w') :=
  ⟨q.validate, fun W hW => c_RegVal q cls IA ic DA dc W _ G (hr.below hW (Nat.le_refl _)) hW.size (hE.below hW hG) (hR.below hW hG) (Nat.le_trans hG hW.size), fun W hW => c_RefVal q cls IA ic DA dc W _ (hr.below hW (Nat.le_refl _)) hW.size⟩
set_option maxRecDepth 100000 in
set_option maxHeartbeats 16000000 in
theorem c_lawRegHeaders (xs ys : List Int) (v0 v2 : Value) (n1 n3 : Int) (w : World) (G : Nat) (hv : IsInts w w.heap.size xs v0) (hy : IsInts w w.heap.size ys v2) (hx : ∀ x ∈ xs, inI x) (hn : xs.length ≤ 2 ^ 47) (_ : ∀ x ∈ ys, inI x) (_ : ys.length ≤ 2 ^ 47)
    (_ : inI n1) (_ : inI n3) (hR : EnvR w G) (hE : EnvS w G) (hG : G ≤ w.heap.size) :
    Calls Tryz.prog 3 #[v0, .int .i64 n1, v2, .int .i64 n3] w fun e w' => e = .returned (.bool true) ∧ Below w.heap.size w w' := by
  have HN := Lib.hid (fun (W : World) => c_TNew xs v0 w hv hx hn)
  obtain ⟨Av, cv, rfl, _⟩ := hv
  have HY := Lib.hid hy
  obtain ⟨Cv, dv, rfl, _⟩ := hy
  have HE := Lib.hid hE
  have HR := Lib.hid hR
  clear hE hR hx hn
  generalize xs.length = nx at *
  by_cases hlong : 2000 < ys.length
  · have hl1 : (2000 : Int) < (ys.length : Int) := by omega
    go_enter Tryz.func3, Tryz.ntmps3
    go_wp2
    go_ret
    exact ⟨rfl, Below.refl _ _⟩
  have hl1 : ¬ (2000 : Int) < (ys.length : Int) := by omega
  go_enter Tryz.func3, Tryz.ntmps3
  go_wp2_with fail
  refine (HN.out w).mono ?_
  rintro e w1 ⟨rfl, hst1, hb1, hs1⟩
  have HST1 := Lib.hid hst1
  clear hst1 HN
  go_wp2_with fail
  refine (c_TGen2 w.heap.size w1 HST1.out).mono ?_
  rintro e w2 ⟨r, cls, IA, ic, rfl, hrc, hr0, hr1, hrcl, hre, hg2⟩
  have hb2 : Below w.heap.size w w2 := hb1.trans (below_of_grownT hg2 (Nat.le_refl _) (by omega))
  have HRC := Lib.hid hrc
  obtain ⟨CA, cc, rfl, _⟩ := hrc.cls
  have hml : r.classes.length = 7 := by rw [hrcl]; rfl
  have HE2 := Lib.hid (HE.out.below hb2 hG)
  have HR2 := Lib.hid (HR.out.below hb2 hG)
  have hG2 : G ≤ w2.heap.size := Nat.le_trans hG hb2.size
  have HBW := Lib.hid hb2
  have hsw := hb2.size
  clear hrc hrcl hb1 hg2 hs1 HST1 HE HR hb2 hre
  rw [hml]
  have HML := Lib.hid hml
  clear hml
  go_upto_region 4 with fail
  go_cut [10, 11, 12] from 16 to 96 (fun p q s wx => ∃ a b c : Nat, p = .pointer (some ⟨a, 0, none⟩) ∧ q = .pointer (some ⟨b, 0, none⟩) ∧ s = .pointer (some ⟨c, 0, none⟩) ∧ (w2.heap.size < a ∧ w2.heap.size < b ∧ w2.heap.size < c ∧ a ≤ w2.heap.size + 3 ∧ b ≤ w2.heap.size + 3 ∧ c ≤ w2.heap.size + 3 ∧ a ≠ b ∧ a ≠ c ∧ b ≠ c) ∧ Hid (Hd w2 a b c (.int .i64 r.params) (.slice CA 7 cc) (.slice IA r.instrs.length ic) (.slice none r.edits 0) (.int .i64 r.params) (.slice CA 7 cc) (.slice CA 7 cc) wx))
  case first =>
    go_region
    all_goals
      go_wp2_with fail
      go_meet
      case rel => exact ⟨_, _, _, rfl, rfl, rfl, by omega, Lib.hid (heads4 w2 _ _ _ _ (by omega))⟩
  case rest =>
    obtain ⟨a, b, c, rfl, rfl, rfl, hab, HH⟩ := hcut
    have hna : w2.heap.size < a := hab.1
    have hnb : w2.heap.size < b := hab.2.1
    have hnc : w2.heap.size < c := hab.2.2.1
    have hab1 : a ≠ b := hab.2.2.2.2.2.2.1
    have hac1 : a ≠ c := hab.2.2.2.2.2.2.2.1
    have hbc1 : b ≠ c := hab.2.2.2.2.2.2.2.2
    have HLT := Lib.hid (show a ≤ w2.heap.size + 3 ∧ b ≤ w2.heap.size + 3 ∧ c ≤ w2.heap.size + 3 from ⟨hab.2.2.2.1, hab.2.2.2.2.1, hab.2.2.2.2.2.1⟩)
    clear hab
    obtain ⟨i0, hi0, hz0, hz1, hz2⟩ := info_parts info_int
    have HI : Hid (i0.zero = some (.int .i64 0) ∧ i0.size = 1 ∧ i0.bytes = 8) := Lib.hid ⟨hz0, hz1, hz2⟩
    have Hi0 := Lib.hid hi0
    clear hi0 hz0 hz1 hz2
    have HCL := Lib.hid (fun (W : World) (hW : Below w2.heap.size w2 W) => HRC.out.cls.below hW (Nat.le_refl _))
    have HYS := Lib.hid (fun (W : World) (hW : Below w2.heap.size w2 W) => HY.out.below (HBW.out.trans (hW.mono hsw)) (Nat.le_refl _))
    obtain ⟨a0, a1, a2, a3⟩ := HH.out.A.cells
    have fa := HH.out.A.free
    go_upto_region 6 with fail
    generalize hW5 : wc.setCell _ _ = w5
    have H5 : Hid (Hd w2 a b c (.int .i64 r.params) (.slice CA 7 cc) (.slice IA r.instrs.length ic) (.slice none r.edits 0) (.int .i64 n1) (.slice CA 7 cc) (.slice CA 7 cc) w5) := Lib.hid (by
      rw [← hW5]
      exact HH.out.setA hna hab1 hac1)
    clear hW5 a0 a1 a2 a3 fa HH
    obtain ⟨c0, c1, c2, c3⟩ := H5.out.r.cells
    have hs5 := H5.out.sz
    have hn5 : w2.heap.size < w5.heap.size := by omega
    have hRD1 : Hid (∀ W : World, Below w5.heap.size w5 W → Rd W w2.heap.size 1 (ints r.classes) CA 7) := Lib.hid (fun W hW => by
      obtain ⟨A', c', hv, _, _, _, _, hrd⟩ := HCL.out W (below_step H5.out.bw hW)
      simp only [Value.slice.injEq] at hv
      obtain ⟨rfl, _, rfl⟩ := hv
      rw [HML.out] at hrd
      exact hrd)
    have hRD2 : Hid (∀ W : World, Below w5.heap.size w5 W → Rd W w.heap.size 1 (ints ys) Cv ys.length) := Lib.hid (fun W hW => by
      obtain ⟨A', c', hv, _, _, _, _, hrd⟩ := HYS.out W (below_step H5.out.bw hW)
      simp only [Value.slice.injEq] at hv
      obtain ⟨rfl, _, rfl⟩ := hv
      exact hrd)
    go_upto_region 7 with (first
      | (at_builtin; refine wpList_append_rd _ rfl (.tmp 27) (.tmp 29) 22 rfl w5.heap.size 3 i0 (.int .i64 0) 1 8 Tryz.underlying22 Hi0.out HI.out.1 HI.out.2.1 HI.out.2.2 rfl (by omega) (.slice (some ⟨w5.heap.size, 0, none⟩) 0 0) 0 [] rfl (own_empty (blk_new _ _) (Nat.le_refl _)) w2.heap.size CA 7 cc (ints r.classes) rfl (hRD1.out _ (below_new _ _)) (ints_one _) (by omega) (by simp) ?_
         intro v6 w6 hown6 hg6 hat6
         have hs6 := hg6.size
         simp at hs6
         have hb6 : Below w5.heap.size w5 w6 := (below_new w5 _).grown hg6 (by simp) (fun k e => by cases e; exact Nat.le_refl _)
         have H6 := Lib.hid (H5.out.step hb6)
         have HO6 := Lib.hid hown6
         have HB6 := Lib.hid hb6
         clear hown6 hg6 hat6 hb6)
      | (at_builtin; refine wpList_append_rd _ rfl (.tmp 30) (.tmp 31) 22 rfl w5.heap.size 3 i0 (.int .i64 0) 1 8 Tryz.underlying22 Hi0.out HI.out.1 HI.out.2.1 HI.out.2.2 rfl (by omega) v6 (0 + 7) _ rfl HO6.out w.heap.size Cv ys.length dv (ints ys) rfl (hRD2.out _ HB6.out) (ints_one _) (by omega) (by omega) ?_
         intro v7 w7 hown7 hg7 hat7
         rw [Nat.zero_add, List.nil_append] at hown7
         obtain ⟨A7, c7, rfl⟩ := own_form hown7
         have hb7 : Below w5.heap.size w5 w7 := HB6.out.grown hg7 (by omega) (fun k e => own_ge HO6.out k e)
         have H7 := Lib.hid (H5.out.step hb7)
         have HO7 := Lib.hid hown7
         have hs7 := hg7.size
         have fb := H7.out.B.free
         obtain ⟨b0, b1, b2, b3⟩ := H7.out.B.cells
         clear hown7 hg7 hat7 hb7 H6 HO6 HB6))
    have H8 := Lib.hid (H7.out.setB (v := .slice A7 (7 + ys.length) c7) hnb hab1 hbc1)
    have HO8 := Lib.hid (own_set (base := w5.heap.size) HO7.out (b := b) (by have h := HLT.out.2.1; omega) 1 (.slice A7 (7 + ys.length) c7))
    have hs85 : w5.heap.size ≤ (w7.setCell ⟨b, 1, none⟩ (.slice A7 (7 + ys.length) c7)).heap.size := by simp [World.setCell]; omega
    generalize hW8 : w7.setCell _ _ = w8 at *
    clear hW8 b0 b1 b2 b3 fb c0 c1 c2 c3 H7 HO7 hs7
    have fc := H8.out.C.free
    obtain ⟨d0, d1, d2, d3⟩ := H8.out.C.cells
    have hs8 := H8.out.sz
    go_wp2_with fail
    refine (c_Within n3 998 1002 w8 (by omega) (by omega) (by omega)).mono ?_
    rintro e wy ⟨y1, rfl, hy0, hy1, rfl⟩
    obtain ⟨m1, rfl⟩ := Int.eq_ofNat_of_zero_le (show 0 ≤ y1 by omega)
    have hmk1 := made_ints wy m1 (by omega)
    have hcy : c < wy.heap.size := by have h := HLT.out.2.2; omega
    go_upto_region 8 with fail
    have H9 := Lib.hid ((H8.out.setC (v := .slice (some ⟨wy.heap.size, 0, none⟩) m1 m1) hnc hac1 hbc1).step (below_new _ (.cells (Array.replicate m1 (.int .i64 0)) 3)))
    have HO9 := Lib.hid ((own_set (base := w5.heap.size) HO8.out (b := c) (by have h := HLT.out.2.2; omega) 1 (.slice (some ⟨wy.heap.size, 0, none⟩) m1 m1)).alloc (.cells (Array.replicate m1 (.int .i64 0)) 3))
    have HC9 : Hid (RowV ((wy.setCell ⟨c, 1, none⟩ (.slice (some ⟨wy.heap.size, 0, none⟩) m1 m1)).alloc (.cells (Array.replicate m1 (.int .i64 0)) 3)) wy.heap.size 3 (ints (List.replicate m1 0))) := Lib.hid (by
      rw [ints_rep]
      have := blk_eq (wy.setCell ⟨c, 1, none⟩ (.slice (some ⟨wy.heap.size, 0, none⟩) m1 m1)) (.cells (Array.replicate m1 (.int .i64 0)) 3) (n := wy.heap.size) (by simp [World.setCell])
      unfold RowV
      rw [this]
      simp)
    generalize hW9 : (wy.setCell _ _).alloc _ = w9 at *
    clear hW9 d0 d1 d2 d3 fc H8 HO8 hmk1 hcy
    have HIB := Lib.hid (show IsInts w9 w9.heap.size (r.classes ++ ys) (.slice A7 (r.classes ++ ys).length c7) from IsInts.own (by
      have h := HO9.out
      rw [ints_append] at h
      rw [List.length_append, HML.out]
      exact h))
    have HIC := Lib.hid (ints_blk HC9.out (by simp) (by omega : m1 ≤ 2 ^ 40))
    clear HO9 HC9
    generalize wy.heap.size = gc at *
    have hs9 := H9.out.sz
    go_wp2_with fail
    refine (c_Within n3 19999 20001 _ (by omega) (by omega) (by omega)).mono ?_
    rintro e wz ⟨y2, rfl, hz0, hz1, hwz⟩
    obtain ⟨m2, rfl⟩ := Int.eq_ofNat_of_zero_le (show 0 ≤ y2 by omega)
    subst hwz
    have hmk2 := made_instrs (w9.alloc (.cells #[.int .i64 0] 3)) m2 (by omega)
    go_upto_region 9 with fail
    generalize hgd : w9.heap.size = gd
    generalize hW10 : ((w9.alloc _).alloc _).alloc _ = w10
    have HB10 : Hid (Below gd w9 w10) := Lib.hid (by
      rw [← hW10, ← hgd]
      exact below_step (below_step (below_new w9 _) (below_new _ _)) (below_new _ _))
    have HD10 : Hid (RowD (gd + 1) m2 0 w10) := Lib.hid (by
      rw [← hW10, ← hgd]
      have h := RowD.start (w9.alloc (.cells #[.int .i64 0] 3)) m2
      rw [show (w9.alloc (.cells #[.int .i64 0] 3)).heap.size = w9.heap.size + 1 by simp] at h
      exact h.below (below_new _ _))
    have HX10 : Hid (Box4 w10 (gd + 2) (.int .i64 0) (.slice (some ⟨gd, 0, none⟩) 1 1) (.slice (some ⟨gd + 1, 0, none⟩) m2 m2) (.slice none 0 0)) := Lib.hid (by
      rw [← hW10, ← hgd]
      exact blk_eq _ _ (by simp))
    have HV10 : Hid (RowV w10 gd 3 (ints [0])) := Lib.hid (by
      rw [← hW10, ← hgd]
      exact blk_old (blk_old (blk_new _ _)))
    have hs10 : gd + 3 ≤ w10.heap.size := by rw [← hW10, ← hgd]; simp
    rw [hgd] at hs9
    clear hW10 hmk2
    have HGD := Lib.hid hgd
    clear hgd
    go_wp2
    go_loopw [14] (fun s wr => ∃ k : Nat, k ≤ m2 ∧ s = .int .i64 k ∧ Hid (Below gd w9 wr) ∧ Hid (RowD (gd + 1) m2 k wr) ∧ Hid (Box4 wr (gd + 2) (.int .i64 0) (.slice (some ⟨gd, 0, none⟩) 1 1) (.slice (some ⟨gd + 1, 0, none⟩) m2 m2) (.slice none 0 0)) ∧ Hid (RowV wr gd 3 (ints [0])) ∧ gd + 3 ≤ wr.heap.size) (fun s _ => m2 - (intOf s).toNat)
    case atStart => exact ⟨0, by omega, rfl, HB10, HD10, HX10, HV10, hs10⟩
    case round =>
      clear HB10 HD10 HX10 HV10 hs10
      obtain ⟨k, hk, rfl, HB, HD, HX, HV, hsr⟩ := hrel
      have hk0 : (0 : Int) ≤ (k : Int) := by omega
      obtain ⟨x0, x1, x2, x3⟩ := HX.out.cells
      by_cases hkm : k < m2
      · have hk1 : (k : Int) < (m2 : Int) := by omega
        have fd := HD.out.free
        have hcz : ∀ i, i < 15 → wr.cell? ⟨gd + 1, k * 15 + i, none⟩ = (cellsOf 0)[i]? := fun i hi => by
          have h := HD.out.cell hkm i hi
          rw [if_neg (Nat.lt_irrefl _)] at h
          exact h
        have e0 : wr.cell? ⟨gd + 1, k * 15, none⟩ = some (.int .i64 0) := hcz 0 (by decide)
        have e1 : wr.cell? ⟨gd + 1, k * 15 + 1, none⟩ = some (.int .i64 0) := hcz 1 (by decide)
        have e2 : wr.cell? ⟨gd + 1, k * 15 + 2, none⟩ = some (.int .i64 0) := hcz 2 (by decide)
        have e3 : wr.cell? ⟨gd + 1, k * 15 + 3, none⟩ = some (.int .i64 0) := hcz 3 (by decide)
        have e4 : wr.cell? ⟨gd + 1, k * 15 + 4, none⟩ = some (.int .i64 0) := hcz 4 (by decide)
        have e5 : wr.cell? ⟨gd + 1, k * 15 + 5, none⟩ = some (.string ⟨#[]⟩) := hcz 5 (by decide)
        have e6 : wr.cell? ⟨gd + 1, k * 15 + 6, none⟩ = some (.slice none 0 0) := hcz 6 (by decide)
        have e7 : wr.cell? ⟨gd + 1, k * 15 + 7, none⟩ = some (.int .i64 0) := hcz 7 (by decide)
        have e8 : wr.cell? ⟨gd + 1, k * 15 + 8, none⟩ = some (.string ⟨#[]⟩) := hcz 8 (by decide)
        have e9 : wr.cell? ⟨gd + 1, k * 15 + 9, none⟩ = some (.int .i64 0) := hcz 9 (by decide)
        have e10 : wr.cell? ⟨gd + 1, k * 15 + 10, none⟩ = some (.slice none 0 0) := hcz 10 (by decide)
        have e11 : wr.cell? ⟨gd + 1, k * 15 + 11, none⟩ = some (.int .i64 0) := hcz 11 (by decide)
        have e12 : wr.cell? ⟨gd + 1, k * 15 + 12, none⟩ = some (.int .i64 0) := hcz 12 (by decide)
        have e13 : wr.cell? ⟨gd + 1, k * 15 + 13, none⟩ = some (.string ⟨#[]⟩) := hcz 13 (by decide)
        have e14 : wr.cell? ⟨gd + 1, k * 15 + 14, none⟩ = some (.slice none 0 0) := hcz 14 (by decide)
        have HB2 := Lib.hid (below_sets (d := gd + 1) (o := k * 15) (vs := (cellsOf 24).toList) HB.out (by omega))
        have HD2 := Lib.hid (HD.out.put hkm)
        have HX2 := Lib.hid (HX.out.sets (d := gd + 1) (o := k * 15) (vs := (cellsOf 24).toList) (by omega))
        have HV2 := Lib.hid (HV.out.sets (d := gd + 1) (o := k * 15) (vs := (cellsOf 24).toList) (by omega))
        have hs2 : gd + 3 ≤ (wr.setCells (gd + 1) (k * 15) (cellsOf 24).toList).heap.size := by rw [(setCells_frame _ _ _).2.2.2.1]; exact hsr
        clear hcz HB HD HX HV
        go_wp2
        go_roundw
        case rel => exact ⟨k + 1, by omega, by go_num, HB2, HD2, HX2, HV2, hs2⟩
        case measure => simp [intOf]; omega
      · obtain rfl : m2 = k := by omega
        have hmk3 : ∀ W : World, (Instr.makeSlice 22 (.int .i64 10) (.int .i64 10)).run Tryz.prog W = .ok (.slice (some ⟨W.heap.size, 0, none⟩) 10 10) (W.alloc (.cells (List.replicate 10 (.int .i64 0)).toArray 3)) := fun W => made_ints W 10 (by omega)
        go_upto_region 13 with fail
        clear x0 x1 x2 x3
        refine wp_region_vs 7 (K13 wr.heap.size n1) (by kernel_rfl) (by kernel_rfl) K13.keep ?hstep ?hdone
        case hstep =>
          clear HB HD HX HV
          refine ⟨?_, ?_, ?_, ?_, ?_, ?_, ?_, trivial⟩
          · skip
            intro vs W hlv hbW hdep K' hK'
            obtain ⟨p0, p1, p2, p3, p4, p5, p6, rfl⟩ := len7 hlv
            have HDP := Lib.hid hdep
            have HBV := Lib.hid hbW
            simp only [actOf, List.take_succ_cons, List.take_zero, Act.put, List.setIfInBounds_toArray, List.set_cons_zero, List.set_cons_succ] at hK' ⊢
            have HK := Lib.hid hK'
            clear hlv hbW hdep hK'
            go_simp
            exact HK.out _ _ (Below.refl _ _) rfl
          · skip
            intro vs W hlv hbW hdep K' hK'
            obtain ⟨p0, p1, p2, p3, p4, p5, p6, rfl⟩ := len7 hlv
            have HDP := Lib.hid hdep
            have HBV := Lib.hid hbW
            simp only [actOf, List.take_succ_cons, List.take_zero, Act.put, List.setIfInBounds_toArray, List.set_cons_zero, List.set_cons_succ] at hK' ⊢
            have HK := Lib.hid hK'
            clear hlv hbW hdep hK'
            obtain rfl := HDP.out 0 _ (by kernel_rfl) rfl
            go_simp
            go_at_call 8
            refine (c_Within n1 5 8 W (by omega) (by omega) (by omega)).mono ?_
            rintro e wq ⟨y3, rfl, hy30, hy31, rfl⟩
            exact HK.out _ _ (Below.refl _ _) ⟨y3, rfl, hy30, hy31⟩
          · skip
            intro vs W hlv hbW hdep K' hK'
            obtain ⟨p0, p1, p2, p3, p4, p5, p6, rfl⟩ := len7 hlv
            have HDP := Lib.hid hdep
            have HBV := Lib.hid hbW
            simp only [actOf, List.take_succ_cons, List.take_zero, Act.put, List.setIfInBounds_toArray, List.set_cons_zero, List.set_cons_succ] at hK' ⊢
            have HK := Lib.hid hK'
            clear hlv hbW hdep hK'
            go_simp
            exact HK.out _ _ (below_new _ _) ⟨_, rfl, by rw [ints_rep]; exact blk_new _ _⟩
          · skip
            intro vs W hlv hbW hdep K' hK'
            obtain ⟨p0, p1, p2, p3, p4, p5, p6, rfl⟩ := len7 hlv
            have HDP := Lib.hid hdep
            have HBV := Lib.hid hbW
            simp only [actOf, List.take_succ_cons, List.take_zero, Act.put, List.setIfInBounds_toArray, List.set_cons_zero, List.set_cons_succ] at hK' ⊢
            have HK := Lib.hid hK'
            clear hlv hbW hdep hK'
            go_simp
            exact HK.out _ _ (Below.refl _ _) rfl
          · skip
            intro vs W hlv hbW hdep K' hK'
            obtain ⟨p0, p1, p2, p3, p4, p5, p6, rfl⟩ := len7 hlv
            have HDP := Lib.hid hdep
            have HBV := Lib.hid hbW
            simp only [actOf, List.take_succ_cons, List.take_zero, Act.put, List.setIfInBounds_toArray, List.set_cons_zero, List.set_cons_succ] at hK' ⊢
            have HK := Lib.hid hK'
            clear hlv hbW hdep hK'
            obtain rfl := HDP.out 3 _ (by kernel_rfl) rfl
            go_simp
            exact HK.out _ _ (below_new _ _) ⟨_, rfl, blk_new _ _⟩
          · skip
            intro vs W hlv hbW hdep K' hK'
            obtain ⟨p0, p1, p2, p3, p4, p5, p6, rfl⟩ := len7 hlv
            have HDP := Lib.hid hdep
            have HBV := Lib.hid hbW
            simp only [actOf, List.take_succ_cons, List.take_zero, Act.put, List.setIfInBounds_toArray, List.set_cons_zero, List.set_cons_succ] at hK' ⊢
            have HK := Lib.hid hK'
            clear hlv hbW hdep hK'
            obtain ⟨y, rfl, hy0, hy1⟩ := HDP.out 1 _ (by kernel_rfl) rfl
            obtain ⟨e1, rfl, he1⟩ := HDP.out 2 _ (by kernel_rfl) rfl
            obtain ⟨e2, rfl, he2⟩ := HDP.out 4 _ (by kernel_rfl) rfl
            go_simp
            exact HK.out _ _ (Below.refl _ _) ⟨y, e1, e2, rfl, hy0, hy1, he1, he2⟩
          · skip
            intro vs W hlv hbW hdep K' hK'
            obtain ⟨p0, p1, p2, p3, p4, p5, p6, rfl⟩ := len7 hlv
            have HDP := Lib.hid hdep
            have HBV := Lib.hid hbW
            simp only [actOf, List.take_succ_cons, List.take_zero, Act.put, List.setIfInBounds_toArray, List.set_cons_zero, List.set_cons_succ] at hK' ⊢
            have HK := Lib.hid hK'
            clear hlv hbW hdep hK'
            go_simp
            exact HK.out _ _ (below_new _ _) ⟨_, rfl, HBV.out.size, blk_new _ _⟩
        case hdone =>
          intro vs W13 hlv hb13 hk13
          obtain ⟨p0, p1, p2, p3, p4, p5, p6, rfl⟩ := len7 hlv
          obtain ⟨y3, e1, e2, rfl, hy30, hy31, he1, he2⟩ := hk13 5 _ rfl
          obtain ⟨eb, rfl, heb, hbx⟩ := hk13 6 _ rfl
          have HFN := Lib.hid (heads_fin (wr := wr) (y := y3) (below_step (below_drew _) hb13) heb hbx he1 he2)
          have feb := hbx.free
          obtain ⟨o0, o1, o2, o3⟩ := hbx.cells
          clear hlv hb13 hk13 hbx he1 he2 heb
          simp only [actOf, List.take_succ_cons, List.take_zero, List.drop_succ_cons, List.drop_zero, Act.put, List.setIfInBounds_toArray, List.set_cons_zero, List.set_cons_succ]
          go_upto_region 14 with fail
          generalize hwc : World.setCell _ _ _ = wc
          obtain ⟨hex, he1', hei, hbe⟩ := HFN.out wc hwc.symm
          have HEX := Lib.hid hex
          have HE1 := Lib.hid he1'
          have HEI := Lib.hid hei
          have HBE := Lib.hid hbe
          clear hex he1' hei hbe HFN feb o0 o1 o2 o3 hwc
          clear hmk3
          have HB9 : Hid (Below w9.heap.size w9 wr) := Lib.hid (by have h := HB.out; rw [← HGD.out] at h; exact h)
          have HBC9 := Lib.hid (below_step HB9.out HBE.out)
          have H12 := Lib.hid (H9.out.step HBC9.out)
          have HBC : Hid (Below w2.heap.size w2 wc) := Lib.hid H12.out.bw
          have HX12 := Lib.hid (HX.out.below HBE.out)
          have HD12 := Lib.hid (HD.out.below HBE.out)
          have HV12 := Lib.hid (HV.out.below HBE.out)
          have HIB12 := Lib.hid ((HIB.out.below HBC9.out (Nat.le_refl _)).more HBC9.out.size)
          have HIC12 := Lib.hid ((HIC.out.below HBC9.out (Nat.le_refl _)).more HBC9.out.size)
          have hsc : w2.heap.size ≤ wc.heap.size := HBC.out.size
          have HRI := Lib.hid (HRC.out.below HBC.out (Nat.le_refl _))
          clear HIB HIC HX HD HV HB HB9 HBE H9
          have hGc : G ≤ wc.heap.size := Nat.le_trans hG2 hsc
          have HEC := Lib.hid (HE2.out.below HBC.out hG2)
          have HRR := Lib.hid (HR2.out.below HBC.out hG2)
          have hins : IsInsl wc wc.heap.size r.instrs (.slice IA r.instrs.length ic) := HRI.out.ins.more hsc
          have HINS := Lib.hid hins
          have HCLS : Hid (IsInts wc wc.heap.size r.classes (.slice CA 7 cc)) := Lib.hid (by
            have h := HRI.out.cls.more hsc
            rw [HML.out] at h
            exact h)
          clear hins
          obtain ⟨va, ha1, ha2⟩ := heads_both ⟨n1, r.classes, r.instrs, r.edits⟩ _ IA ic none 0 wc G ⟨HCLS.out, HINS.out, HRI.out.ok⟩ HEC.out HRR.out hGc
          have HPa := Lib.hid ha1
          have HQa := Lib.hid ha2
          obtain ⟨vb, hb1, hb2⟩ := heads_both ⟨r.params, r.classes ++ ys, r.instrs, r.edits⟩ _ IA ic none 0 wc G ⟨HIB12.out, HINS.out, HRI.out.ok⟩ HEC.out HRR.out hGc
          rw [List.length_append, HML.out] at hb1 hb2
          have HPb := Lib.hid hb1
          have HQb := Lib.hid hb2
          obtain ⟨vc, hc1, hc2⟩ := heads_both ⟨r.params, List.replicate m1 0, r.instrs, r.edits⟩ _ IA ic none 0 wc G ⟨HIC12.out, HINS.out, HRI.out.ok⟩ HEC.out HRR.out hGc
          have HPc := Lib.hid hc1
          have HQc := Lib.hid hc2
          have hdi := HD12.out.insl
          have hDL : (List.replicate m2 retIns).length = m2 := by simp
          have hdi' : IsInsl wc wc.heap.size (List.replicate m2 retIns) (.slice (some ⟨gd + 1, 0, none⟩) (List.replicate m2 retIns).length m2) := by rw [hDL]; exact hdi
          obtain ⟨vd, hd1, hd2⟩ := heads_both ⟨0, [0], List.replicate m2 retIns, 0⟩ _ (some ⟨gd + 1, 0, none⟩) m2 none 0 wc G ⟨ints_blk HV12.out rfl (by simp), hdi', fun x hx => by rw [List.eq_of_mem_replicate hx]; exact retIns_ok⟩ HEC.out HRR.out hGc
          simp only [hDL] at hd1 hd2
          have HPd := Lib.hid hd1
          have HQd := Lib.hid hd2
          have hei : IsInsl wc wc.heap.size (List.replicate 1 retIns) (.slice (some ⟨e2, 0, none⟩) 1 1) := RowD.insl ⟨_, HEI.out, rfl, fun j i hj hi => by
            obtain rfl : j = 0 := by omega
            rw [if_pos hj, Nat.zero_mul, Nat.zero_add]⟩
          obtain ⟨ve, he1, he2⟩ := heads_both ⟨y3, List.replicate 10 0, List.replicate 1 retIns, 0⟩ _ (some ⟨e2, 0, none⟩) 1 none 0 wc G ⟨ints_blk HE1.out rfl (by simp), hei, fun x hx => by rw [List.eq_of_mem_replicate hx]; exact retIns_ok⟩ HEC.out HRR.out hGc
          have HPe : Hid (∀ W : World, Below wc.heap.size wc W → Calls Tryz.prog 9 #[.agg #[.int .i64 y3, .slice (some ⟨e1, 0, none⟩) 10 10, .slice (some ⟨e2, 0, none⟩) 1 1, .slice none 0 0]] W fun e w' => e = .returned (.int .i64 ve) ∧ Below W.heap.size W w') := Lib.hid he1
          have HQe : Hid (∀ W : World, Below wc.heap.size wc W → Calls Tryz.prog 10 #[.agg #[.int .i64 y3, .slice (some ⟨e1, 0, none⟩) 10 10, .slice (some ⟨e2, 0, none⟩) 1 1, .slice none 0 0]] W fun e w' => e = .returned (.int .i64 ve) ∧ Below W.heap.size W w') := Lib.hid he2
          have HSN : Hid (∀ W : World, Below w2.heap.size w2 W → Calls Tryz.prog 11 #[] W fun e w' => e = .returned (.bool true) ∧ Below W.heap.size W w') := Lib.hid (fun W hW => c_sane W G (HE2.out.below hW hG2) (HR2.out.below hW hG2) (Nat.le_trans hG2 hW.size))
          have SK : Hid (∀ W' : World, Below wc.heap.size wc W' → (fun W' : World => Below wc.heap.size wc W' ∧ (W'.cell? ⟨eb, 0, none⟩ = some (.int .i64 y3) ∧ W'.cell? ⟨eb, 1, none⟩ = some (.slice (some ⟨e1, 0, none⟩) 10 10) ∧ W'.cell? ⟨eb, 2, none⟩ = some (.slice (some ⟨e2, 0, none⟩) 1 1) ∧ W'.cell? ⟨eb, 3, none⟩ = some (.slice none 0 0)) ∧ (W'.cell? ⟨a, 0, none⟩ = some (.int .i64 n1) ∧ W'.cell? ⟨a, 1, none⟩ = some (.slice CA 7 cc) ∧ W'.cell? ⟨a, 2, none⟩ = some (.slice IA r.instrs.length ic) ∧ W'.cell? ⟨a, 3, none⟩ = some (.slice none r.edits 0)) ∧ (W'.cell? ⟨b, 0, none⟩ = some (.int .i64 r.params) ∧ W'.cell? ⟨b, 1, none⟩ = some (.slice A7 (7 + ys.length) c7) ∧ W'.cell? ⟨b, 2, none⟩ = some (.slice IA r.instrs.length ic) ∧ W'.cell? ⟨b, 3, none⟩ = some (.slice none r.edits 0)) ∧ (W'.cell? ⟨c, 0, none⟩ = some (.int .i64 r.params) ∧ W'.cell? ⟨c, 1, none⟩ = some (.slice (some ⟨gc, 0, none⟩) m1 m1) ∧ W'.cell? ⟨c, 2, none⟩ = some (.slice IA r.instrs.length ic) ∧ W'.cell? ⟨c, 3, none⟩ = some (.slice none r.edits 0)) ∧ (W'.cell? ⟨gd + 2, 0, none⟩ = some (.int .i64 0) ∧ W'.cell? ⟨gd + 2, 1, none⟩ = some (.slice (some ⟨gd, 0, none⟩) 1 1) ∧ W'.cell? ⟨gd + 2, 2, none⟩ = some (.slice (some ⟨gd + 1, 0, none⟩) m2 m2) ∧ W'.cell? ⟨gd + 2, 3, none⟩ = some (.slice none 0 0))) W') := Lib.hid (fun W' hW => ⟨hW, (HEX.out.below hW).cells, (H12.out.A.below hW).cells, (H12.out.B.below hW).cells, (H12.out.C.below hW).cells, (HX12.out.below hW).cells⟩)
          have tok0 : True := trivial
          clear ha1 ha2 hb1 hb2 hc1 hc2 hd1 hd2 he1 he2 hdi hdi' hei hDL HIB12 HIC12 HCLS HINS HRI HX12 HD12 HV12 HEX HE1 HEI H12 HEC HRR
          go_region_held3 (fun W' : World => Below wc.heap.size wc W' ∧ (W'.cell? ⟨eb, 0, none⟩ = some (.int .i64 y3) ∧ W'.cell? ⟨eb, 1, none⟩ = some (.slice (some ⟨e1, 0, none⟩) 10 10) ∧ W'.cell? ⟨eb, 2, none⟩ = some (.slice (some ⟨e2, 0, none⟩) 1 1) ∧ W'.cell? ⟨eb, 3, none⟩ = some (.slice none 0 0)) ∧ (W'.cell? ⟨a, 0, none⟩ = some (.int .i64 n1) ∧ W'.cell? ⟨a, 1, none⟩ = some (.slice CA 7 cc) ∧ W'.cell? ⟨a, 2, none⟩ = some (.slice IA r.instrs.length ic) ∧ W'.cell? ⟨a, 3, none⟩ = some (.slice none r.edits 0)) ∧ (W'.cell? ⟨b, 0, none⟩ = some (.int .i64 r.params) ∧ W'.cell? ⟨b, 1, none⟩ = some (.slice A7 (7 + ys.length) c7) ∧ W'.cell? ⟨b, 2, none⟩ = some (.slice IA r.instrs.length ic) ∧ W'.cell? ⟨b, 3, none⟩ = some (.slice none r.edits 0)) ∧ (W'.cell? ⟨c, 0, none⟩ = some (.int .i64 r.params) ∧ W'.cell? ⟨c, 1, none⟩ = some (.slice (some ⟨gc, 0, none⟩) m1 m1) ∧ W'.cell? ⟨c, 2, none⟩ = some (.slice IA r.instrs.length ic) ∧ W'.cell? ⟨c, 3, none⟩ = some (.slice none r.edits 0)) ∧ (W'.cell? ⟨gd + 2, 0, none⟩ = some (.int .i64 0) ∧ W'.cell? ⟨gd + 2, 1, none⟩ = some (.slice (some ⟨gd, 0, none⟩) 1 1) ∧ W'.cell? ⟨gd + 2, 2, none⟩ = some (.slice (some ⟨gd + 1, 0, none⟩) m2 m2) ∧ W'.cell? ⟨gd + 2, 3, none⟩ = some (.slice none 0 0)))
            (first | exact SK.out _ (below_drew _) | exact SK.out _ (below_step (And.left (by assumption)) hbn))
            (first
            | (go_at_call 11; have _t := tok10; refine (HSN.out _ ?hbS).mono ?_; (case hbS => exact below_step HBC.out (And.left (by assumption))); rintro e wl ⟨rfl, hbn⟩)
            | (go_at_call 9; have _t := tok8; refine (HPd.out _ ?hb8).mono ?_; (case hb8 => exact And.left (by assumption)); rintro e wn ⟨rfl, hbn⟩; have tok9 : True := trivial)
            | (go_at_call 10; have _t := tok9; refine (HQd.out _ ?hb9).mono ?_; (case hb9 => exact And.left (by assumption)); rintro e wn ⟨rfl, hbn⟩; have tok10 : True := trivial)
            | (go_at_call 9; have _t := tok6; refine (HPc.out _ ?hb6).mono ?_; (case hb6 => exact And.left (by assumption)); rintro e wn ⟨rfl, hbn⟩; have tok7 : True := trivial)
            | (go_at_call 10; have _t := tok7; refine (HQc.out _ ?hb7).mono ?_; (case hb7 => exact And.left (by assumption)); rintro e wn ⟨rfl, hbn⟩; have tok8 : True := trivial)
            | (go_at_call 9; have _t := tok4; refine (HPb.out _ ?hb4).mono ?_; (case hb4 => exact And.left (by assumption)); rintro e wn ⟨rfl, hbn⟩; have tok5 : True := trivial)
            | (go_at_call 10; have _t := tok5; refine (HQb.out _ ?hb5).mono ?_; (case hb5 => exact And.left (by assumption)); rintro e wn ⟨rfl, hbn⟩; have tok6 : True := trivial)
            | (go_at_call 9; have _t := tok2; refine (HPa.out _ ?hb2).mono ?_; (case hb2 => exact And.left (by assumption)); rintro e wn ⟨rfl, hbn⟩; have tok3 : True := trivial)
            | (go_at_call 10; have _t := tok3; refine (HQa.out _ ?hb3).mono ?_; (case hb3 => exact And.left (by assumption)); rintro e wn ⟨rfl, hbn⟩; have tok4 : True := trivial)
            | (go_at_call 9; have _t := tok0; refine (HPe.out _ ?hb0).mono ?_; (case hb0 => exact And.left (by assumption)); rintro e wn ⟨rfl, hbn⟩; have tok1 : True := trivial)
            | (go_at_call 10; have _t := tok1; refine (HQe.out _ ?hb1).mono ?_; (case hb1 => exact And.left (by assumption)); rintro e wn ⟨rfl, hbn⟩; have tok2 : True := trivial))
          have hbl : Below wc.heap.size wc wl := And.left (by assumption)
          go_wp2
          go_ret
          exact ⟨rfl, HBW.out.trans ((below_step HBC.out hbl).mono hsw)⟩
end Go.Proofs.YtdjldmpfginkdaaGreatDoor
