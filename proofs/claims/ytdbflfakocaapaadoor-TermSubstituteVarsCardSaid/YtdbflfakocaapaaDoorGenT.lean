/- The walk of telmake.term, given contracts of what it calls. -/
import Derived.Test.YtdbflfakocaapaaDoorGenN
import Derived.Deep.RegionWith
namespace Go.Proofs.YtdbflfakocaapaaDoor
open Go.RowKit
attribute [local go_sem ↓] Go.wp_at_zero Go.wp_at_succ

theorem ty_grown {w w' : World} {sb L : Nat} {t : Ty} {v : Value} (h : IsTy w L w.heap.size t v) (hg : w.grownBy w' (some sb)) (hL : sb < L) : IsTy w' L w'.heap.size t v :=
  h.keep (fun b h1 h2 => hg.block b h2 (by intro e; injection e with e; omega)) (Nat.le_refl _) hg.size

theorem GS.set4 {sb r r4 G bb : Nat} {vd : Value} {w w4 : World} {x0 x1 x2 x3 : Value} (u0 u1 u2 u3 : Value) (h : GS sb r r4 G vd w w4) (hbb : w.heap.size < bb) (hdl : ∀ g, vd = .slice (some ⟨g, 0, none⟩) 8 8 → g < w.heap.size) (hbk : w4.heap[bb]? = some (.cells #[x0, x1, x2, x3] 25 (0, 0))) :
    ∀ W : World, W = ((((w4.setCell ⟨bb, 0, none⟩ u0).setCell ⟨bb, 1, none⟩ u1).setCell ⟨bb, 2, none⟩ u2).setCell ⟨bb, 3, none⟩ u3) → GS sb r r4 G vd w W ∧ W.heap[bb]? = some (.cells #[u0, u1, u2, u3] 25 (0, 0)) ∧ (∀ b, b ≠ bb → W.heap[b]? = w4.heap[b]?) ∧ W.heap.size = w4.heap.size := by
  rintro W rfl
  obtain ⟨s1, s2, s3⟩ := Go.Proofs.YtdbflfakocaapaaDoor.set4 u0 u1 u2 u3 hbk
  have hlt := h.lt
  have hG := h.pre.hG
  refine ⟨⟨⟨h.pre.st.keep fun b hb => s2 b (by omega), h.pre.env.keep fun b hb => s2 b (by omega), hG, ?_⟩, h.le, ⟨h.grown.os, h.grown.tape, h.grown.output, by rw [s3]; exact h.grown.size, fun b hb hne => (s2 b (by omega)).trans (h.grown.block b hb hne)⟩, (s2 _ (by omega)).trans h.box, hlt⟩, s1, s2, s3⟩
  obtain ⟨g, hv, hne, hg, hd⟩ := h.pre.decls
  have := hdl g hv
  exact ⟨g, hv, hne, by rw [s3]; exact hg, hd.keep (s2 g (by omega))⟩



set_option maxRecDepth 20000 in
set_option maxHeartbeats 8000000 in
theorem term_walk (d V : Int) (r : Nat) (hd0 : 0 ≤ d) (hd : d ≤ 10) (hV0 : 0 ≤ V) (hV : V + d ≤ 50) (HN : ∀ r1, r1 ≤ r → GenAt 75 d V r1) (HT : 0 < d → ∀ V' r1, 0 ≤ V' → V' ≤ V + 1 → r1 ≤ r → GenAt 53 (d - 1) V' r1) (HT1 : ∀ r1, r1 < r → GenAt 53 1 0 r1) : GenAt 53 d V r := by
  intro w sb G vd hpre
  have HN := Lib.hid HN
  have HT := Lib.hid HT
  have HT1 := Lib.hid HT1
  have HG0 := Lib.hid (GS.start hpre)
  obtain ⟨gd, rfl, hne, hgd, hds⟩ := hpre.decls
  have HVD : Hid (∀ g, Value.slice (some ⟨gd, 0, none⟩) 8 8 = .slice (some ⟨g, 0, none⟩) 8 8 → g < w.heap.size) := Lib.hid (fun g hg => by simp at hg; omega)
  clear hpre hds
  generalize hvd : Value.slice (some ⟨gd, 0, none⟩) 8 8 = vd at *
  clear hvd hne hgd
  have hwd : IntKind.i64.wrap (d - 1) = d - 1 := IntWalk.i64_in _ (by omega)
  have hwv : IntKind.i64.wrap (V + 1) = V + 1 := IntWalk.i64_in _ (by omega)
  go_enter Tryd.func53, Tryd.ntmps53
  go_wp2_with fail
  refine (c_NextR 14 sb _ _ HG0.out.pre.st (by omega) (by omega)).mono ?_
  rintro e wc ⟨x, r1, rfl, hx0, hx1, hst1, hg1, hr1, hnz⟩
  have HGS := Lib.hid (HG0.out.step hg1 hst1 hr1)
  clear HG0 hst1 hg1
  have hrn : x ≠ 0 → r1 < r := hnz
  by_cases h5 : x ≤ 5
  · rcases Int.lt_or_le 0 d with hdp | hdp
    all_goals
      have hxc : x = 0 ∨ x = 1 ∨ x = 2 ∨ x = 3 ∨ x = 4 ∨ x = 5 := by omega
      rcases hxc with rfl | rfl | rfl | rfl | rfl | rfl
      · clear hnz hrn
        go_wp2
        have hEW := HGS.out.pre.env
        obtain ⟨ga, oa, ca, hga, hgaG, hstr⟩ := hEW.open_ (by omega)
        have HSTR := Lib.hid hstr
        have hgl : 1 < G := hEW.1
        have hGs := HGS.out.pre.hG
        have hsl := HGS.out.pre.st.lt
        clear hstr hEW
        go_region_with (first
          | (go_at_call 49; refine (c_NextR 4 sb _ _ (HGS.out.drew.pre.st) (by omega) (by omega)).mono ?_; rintro e w3 ⟨y, r3, rfl, hy0, hy1, hst3, hg3, hr3, _⟩
             have hgs3 := HGS.out.drew.step hg3 hst3 hr3
             have hga3 := (World.cell?_of_block (a := ⟨1, 0, none⟩) (hg3.block 1 (by simp; omega) (by simp; omega))).trans hga
             obtain ⟨yn, rfl⟩ := Int.eq_ofNat_of_zero_le hy0
             obtain ⟨sr, hsr⟩ := HSTR.out yn (by omega)
             have hsr3 := (World.cell?_of_block (a := ⟨ga, oa + yn, none⟩) (hg3.block ga (by simp; omega) (by simp; omega))).trans hsr
             have HGS3 := Lib.hid hgs3
             have hyn : yn < 4 := by omega
             have hyn1 : (yn : Int) < 4 := by omega
             have hyn0 : (0 : Int) ≤ (yn : Int) := by omega
             clear hst3 hgs3 hsr hg3)
          | (go_at_call 22; refine ((c_Named (w.heap.size + 1) sr [] _ _ (IsTyl.nil none 0)).mono RetTy.g).mono ?_; rintro e w4 ⟨T, A4, c4, hT, rfl, hty4, hb4⟩
             have hgs4 := HGS3.out.below hb4
             obtain ⟨⟨z0, z1, z2, z3⟩, f0, f1, f2, f3⟩ := box_frozen hgs4.box
             have HFB := Lib.hid (hgs4.fin (V := V) hty4.out (by rw [hT.out]; exact (good_leaf 2 sr (by omega) (by omega)).mono (Int.le_refl _) (by omega)))
             clear hgs4))
        all_goals
          go_wp2
          generalize hWF : (((w4.setCell _ _).setCell _ _).setCell _ _).setCell _ _ = WF
          obtain ⟨hfin, zz0, zz1, zz2, zz3⟩ := HFB.out WF hWF.symm
          clear hWF
          exact bodyPost_ret (v := .agg #[.int .i64 T.kind, .string T.name, .int .i64 T.index, .slice A4 T.args.length c4]) (by simp [results, Tryd.results53, go_sem, zz0, zz1, zz2, zz3]) rfl hfin.out
      · clear hnz hrn
        go_wp2
        have hEW := HGS.out.pre.env
        obtain ⟨ga, oa, ca, hga, hgaG, hstr⟩ := hEW.open_ (by omega)
        have HSTR := Lib.hid hstr
        have hgl : 1 < G := hEW.1
        have hGs := HGS.out.pre.hG
        have hsl := HGS.out.pre.st.lt
        clear hstr hEW
        go_region_with (first
          | (go_at_call 49; refine (c_NextR 4 sb _ _ (HGS.out.drew.pre.st) (by omega) (by omega)).mono ?_; rintro e w3 ⟨y, r3, rfl, hy0, hy1, hst3, hg3, hr3, _⟩
             have hgs3 := HGS.out.drew.step hg3 hst3 hr3
             have hga3 := (World.cell?_of_block (a := ⟨1, 0, none⟩) (hg3.block 1 (by simp; omega) (by simp; omega))).trans hga
             obtain ⟨yn, rfl⟩ := Int.eq_ofNat_of_zero_le hy0
             obtain ⟨sr, hsr⟩ := HSTR.out yn (by omega)
             have hsr3 := (World.cell?_of_block (a := ⟨ga, oa + yn, none⟩) (hg3.block ga (by simp; omega) (by simp; omega))).trans hsr
             have HGS3 := Lib.hid hgs3
             have hyn : yn < 4 := by omega
             have hyn1 : (yn : Int) < 4 := by omega
             have hyn0 : (0 : Int) ≤ (yn : Int) := by omega
             clear hst3 hgs3 hsr hg3)
          | (go_at_call 22; refine ((c_Named (w.heap.size + 1) sr [] _ _ (IsTyl.nil none 0)).mono RetTy.g).mono ?_; rintro e w4 ⟨T, A4, c4, hT, rfl, hty4, hb4⟩
             have hgs4 := HGS3.out.below hb4
             obtain ⟨⟨z0, z1, z2, z3⟩, f0, f1, f2, f3⟩ := box_frozen hgs4.box
             have HFB := Lib.hid (hgs4.fin (V := V) hty4.out (by rw [hT.out]; exact (good_leaf 2 sr (by omega) (by omega)).mono (Int.le_refl _) (by omega)))
             clear hgs4))
        all_goals
          go_wp2
          generalize hWF : (((w4.setCell _ _).setCell _ _).setCell _ _).setCell _ _ = WF
          obtain ⟨hfin, zz0, zz1, zz2, zz3⟩ := HFB.out WF hWF.symm
          clear hWF
          exact bodyPost_ret (v := .agg #[.int .i64 T.kind, .string T.name, .int .i64 T.index, .slice A4 T.args.length c4]) (by simp [results, Tryd.results53, go_sem, zz0, zz1, zz2, zz3]) rfl hfin.out
      · clear hnz hrn
        go_wp2_with fail
        refine ((c_Any (w.heap.size + 1) _).mono RetTy.g).mono ?_
        rintro e w4 ⟨T, A4, c4, hT, rfl, hty4, hb4⟩
        have hgs4 := HGS.out.below hb4
        obtain ⟨⟨z0, z1, z2, z3⟩, f0, f1, f2, f3⟩ := box_frozen hgs4.box
        have HFB := Lib.hid (hgs4.fin (V := V) hty4.out (by rw [hT.out]; exact (good_leaf 0 ⟨#[]⟩ (by omega) (by omega)).mono (Int.le_refl _) (by omega)))
        clear hgs4
        go_wp2
        generalize hWF : (((w4.setCell _ _).setCell _ _).setCell _ _).setCell _ _ = WF
        obtain ⟨hfin, zz0, zz1, zz2, zz3⟩ := HFB.out WF hWF.symm
        clear hWF
        exact bodyPost_ret (v := .agg #[.int .i64 T.kind, .string T.name, .int .i64 T.index, .slice A4 T.args.length c4]) (by simp [results, Tryd.results53, go_sem, zz0, zz1, zz2, zz3]) rfl hfin.out
      · clear hnz hrn
        by_cases hv : 0 < V
        · skip
          go_wp2_with fail
          refine (c_NextR V sb _ _ HGS.out.pre.st (by omega) (by omega)).mono ?_
          rintro e w3 ⟨y, r3, rfl, hy0, hy1, hst3, hg3, hr3, _⟩
          have HGS3 := Lib.hid (HGS.out.step hg3 hst3 hr3)
          clear hst3 hg3
          go_wp2_with fail
          refine ((c_Var (w.heap.size + 1) y _).mono RetTy.g).mono ?_
          rintro e w4 ⟨T, A4, c4, hT, rfl, hty4, hb4⟩
          have hgs4 := HGS3.out.below hb4
          obtain ⟨⟨z0, z1, z2, z3⟩, f0, f1, f2, f3⟩ := box_frozen hgs4.box
          have HFB := Lib.hid (hgs4.fin (V := V) hty4.out (by rw [hT.out]; exact (good_var hy0 (by omega) (by omega)).mono (Int.le_refl _) (by omega)))
          clear hgs4
          go_wp2
          generalize hWF : (((w4.setCell _ _).setCell _ _).setCell _ _).setCell _ _ = WF
          obtain ⟨hfin, zz0, zz1, zz2, zz3⟩ := HFB.out WF hWF.symm
          clear hWF
          exact bodyPost_ret (v := .agg #[.int .i64 T.kind, .string T.name, .int .i64 T.index, .slice A4 T.args.length c4]) (by simp [results, Tryd.results53, go_sem, zz0, zz1, zz2, zz3]) rfl hfin.out
        · skip
          go_wp2_with fail
          refine (HN.out r1 hr1 _ sb G vd HGS.out.pre).mono ?_
          rintro e w4 ⟨T, A4, c4, r4, rfl, hty4, hgd4, hr4, hst4, hg4⟩
          have hgs4 := HGS.out.step hg4 hst4 hr4
          have hbl := HGS.out.boxlt
          have hle := HGS.out.le
          obtain ⟨⟨z0, z1, z2, z3⟩, f0, f1, f2, f3⟩ := box_frozen hgs4.box
          have HFB := Lib.hid (hgs4.fin (V := V) (hty4.more (by omega) (Nat.le_refl _)) (hgd4.mono (by omega) (by omega)))
          clear hgs4 hty4 hgd4 hst4 hg4
          go_wp2
          generalize hWF : (((w4.setCell _ _).setCell _ _).setCell _ _).setCell _ _ = WF
          obtain ⟨hfin, zz0, zz1, zz2, zz3⟩ := HFB.out WF hWF.symm
          clear hWF
          exact bodyPost_ret (v := .agg #[.int .i64 T.kind, .string T.name, .int .i64 T.index, .slice A4 T.args.length c4]) (by simp [results, Tryd.results53, go_sem, zz0, zz1, zz2, zz3]) rfl hfin.out
      · clear hnz hrn
        by_cases hv : 0 < V
        · skip
          go_wp2_with fail
          refine (c_NextR V sb _ _ HGS.out.pre.st (by omega) (by omega)).mono ?_
          rintro e w3 ⟨y, r3, rfl, hy0, hy1, hst3, hg3, hr3, _⟩
          have HGS3 := Lib.hid (HGS.out.step hg3 hst3 hr3)
          clear hst3 hg3
          go_wp2_with fail
          refine ((c_Var (w.heap.size + 1) y _).mono RetTy.g).mono ?_
          rintro e w4 ⟨T, A4, c4, hT, rfl, hty4, hb4⟩
          have hgs4 := HGS3.out.below hb4
          obtain ⟨⟨z0, z1, z2, z3⟩, f0, f1, f2, f3⟩ := box_frozen hgs4.box
          have HFB := Lib.hid (hgs4.fin (V := V) hty4.out (by rw [hT.out]; exact (good_var hy0 (by omega) (by omega)).mono (Int.le_refl _) (by omega)))
          clear hgs4
          go_wp2
          generalize hWF : (((w4.setCell _ _).setCell _ _).setCell _ _).setCell _ _ = WF
          obtain ⟨hfin, zz0, zz1, zz2, zz3⟩ := HFB.out WF hWF.symm
          clear hWF
          exact bodyPost_ret (v := .agg #[.int .i64 T.kind, .string T.name, .int .i64 T.index, .slice A4 T.args.length c4]) (by simp [results, Tryd.results53, go_sem, zz0, zz1, zz2, zz3]) rfl hfin.out
        · skip
          go_wp2_with fail
          refine (HN.out r1 hr1 _ sb G vd HGS.out.pre).mono ?_
          rintro e w4 ⟨T, A4, c4, r4, rfl, hty4, hgd4, hr4, hst4, hg4⟩
          have hgs4 := HGS.out.step hg4 hst4 hr4
          have hbl := HGS.out.boxlt
          have hle := HGS.out.le
          obtain ⟨⟨z0, z1, z2, z3⟩, f0, f1, f2, f3⟩ := box_frozen hgs4.box
          have HFB := Lib.hid (hgs4.fin (V := V) (hty4.more (by omega) (Nat.le_refl _)) (hgd4.mono (by omega) (by omega)))
          clear hgs4 hty4 hgd4 hst4 hg4
          go_wp2
          generalize hWF : (((w4.setCell _ _).setCell _ _).setCell _ _).setCell _ _ = WF
          obtain ⟨hfin, zz0, zz1, zz2, zz3⟩ := HFB.out WF hWF.symm
          clear hWF
          exact bodyPost_ret (v := .agg #[.int .i64 T.kind, .string T.name, .int .i64 T.index, .slice A4 T.args.length c4]) (by simp [results, Tryd.results53, go_sem, zz0, zz1, zz2, zz3]) rfl hfin.out
      · clear hnz hrn
        go_wp2_with fail
        refine (HN.out r1 hr1 _ sb G vd HGS.out.pre).mono ?_
        rintro e w4 ⟨T, A4, c4, r4, rfl, hty4, hgd4, hr4, hst4, hg4⟩
        have hgs4 := HGS.out.step hg4 hst4 hr4
        have hbl := HGS.out.boxlt
        have hle := HGS.out.le
        obtain ⟨⟨z0, z1, z2, z3⟩, f0, f1, f2, f3⟩ := box_frozen hgs4.box
        have HFB := Lib.hid (hgs4.fin (V := V) (hty4.more (by omega) (Nat.le_refl _)) (hgd4.mono (by omega) (by omega)))
        clear hgs4 hty4 hgd4 hst4 hg4
        go_wp2
        generalize hWF : (((w4.setCell _ _).setCell _ _).setCell _ _).setCell _ _ = WF
        obtain ⟨hfin, zz0, zz1, zz2, zz3⟩ := HFB.out WF hWF.symm
        clear hWF
        exact bodyPost_ret (v := .agg #[.int .i64 T.kind, .string T.name, .int .i64 T.index, .slice A4 T.args.length c4]) (by simp [results, Tryd.results53, go_sem, zz0, zz1, zz2, zz3]) rfl hfin.out
  by_cases hdp : 0 < d
  case neg =>
    have hdl : d ≤ 0 := by omega
    have h5' : 5 < x := by omega
    clear hnz hrn
    go_wp2
    have hEW := HGS.out.pre.env
    obtain ⟨ga, oa, ca, hga, hgaG, hstr⟩ := hEW.open_ (by omega)
    have HSTR := Lib.hid hstr
    have hgl : 1 < G := hEW.1
    have hGs := HGS.out.pre.hG
    have hsl := HGS.out.pre.st.lt
    clear hstr hEW
    go_region_with (first
      | (go_at_call 49; refine (c_NextR 4 sb _ _ (HGS.out.drew.pre.st) (by omega) (by omega)).mono ?_; rintro e w3 ⟨y, r3, rfl, hy0, hy1, hst3, hg3, hr3, _⟩
         have hgs3 := HGS.out.drew.step hg3 hst3 hr3
         have hga3 := (World.cell?_of_block (a := ⟨1, 0, none⟩) (hg3.block 1 (by simp; omega) (by simp; omega))).trans hga
         obtain ⟨yn, rfl⟩ := Int.eq_ofNat_of_zero_le hy0
         obtain ⟨sr, hsr⟩ := HSTR.out yn (by omega)
         have hsr3 := (World.cell?_of_block (a := ⟨ga, oa + yn, none⟩) (hg3.block ga (by simp; omega) (by simp; omega))).trans hsr
         have HGS3 := Lib.hid hgs3
         have hyn : yn < 4 := by omega
         have hyn1 : (yn : Int) < 4 := by omega
         have hyn0 : (0 : Int) ≤ (yn : Int) := by omega
         clear hst3 hgs3 hsr hg3)
      | (go_at_call 22; refine ((c_Named (w.heap.size + 1) sr [] _ _ (IsTyl.nil none 0)).mono RetTy.g).mono ?_; rintro e w4 ⟨T, A4, c4, hT, rfl, hty4, hb4⟩
         have hgs4 := HGS3.out.below hb4
         obtain ⟨⟨z0, z1, z2, z3⟩, f0, f1, f2, f3⟩ := box_frozen hgs4.box
         have HFB := Lib.hid (hgs4.fin (V := V) hty4.out (by rw [hT.out]; exact (good_leaf 2 sr (by omega) (by omega)).mono (Int.le_refl _) (by omega)))
         clear hgs4))
    all_goals
      go_wp2
      generalize hWF : (((w4.setCell _ _).setCell _ _).setCell _ _).setCell _ _ = WF
      obtain ⟨hfin, zz0, zz1, zz2, zz3⟩ := HFB.out WF hWF.symm
      clear hWF
      exact bodyPost_ret (v := .agg #[.int .i64 T.kind, .string T.name, .int .i64 T.index, .slice A4 T.args.length c4]) (by simp [results, Tryd.results53, go_sem, zz0, zz1, zz2, zz3]) rfl hfin.out
  have hrl : r1 < r := hrn (by omega)
  clear hnz hrn
  have hxc : x = 6 ∨ x = 7 ∨ x = 8 ∨ x = 9 ∨ x = 10 ∨ x = 11 ∨ x = 12 ∨ x = 13 := by omega
  rcases hxc with rfl | rfl | rfl | rfl | rfl | rfl | rfl | rfl
  · skip
    go_wp2_with fail
    refine (HN.out r1 hr1 _ sb G vd HGS.out.pre).mono ?_
    rintro e w4 ⟨T, A4, c4, r4, rfl, hty4, hgd4, hr4, hst4, hg4⟩
    have hgs4 := HGS.out.step hg4 hst4 hr4
    have hbl := HGS.out.boxlt
    have hle := HGS.out.le
    obtain ⟨⟨z0, z1, z2, z3⟩, f0, f1, f2, f3⟩ := box_frozen hgs4.box
    have HFB := Lib.hid (hgs4.fin (V := V) (hty4.more (by omega) (Nat.le_refl _)) (hgd4.mono (by omega) (by omega)))
    clear hgs4 hty4 hgd4 hst4 hg4
    go_wp2
    generalize hWF : (((w4.setCell _ _).setCell _ _).setCell _ _).setCell _ _ = WF
    obtain ⟨hfin, zz0, zz1, zz2, zz3⟩ := HFB.out WF hWF.symm
    clear hWF
    exact bodyPost_ret (v := .agg #[.int .i64 T.kind, .string T.name, .int .i64 T.index, .slice A4 T.args.length c4]) (by simp [results, Tryd.results53, go_sem, zz0, zz1, zz2, zz3]) rfl hfin.out
  · skip
    go_wp2_with fail
    refine (HN.out r1 hr1 _ sb G vd HGS.out.pre).mono ?_
    rintro e w4 ⟨T, A4, c4, r4, rfl, hty4, hgd4, hr4, hst4, hg4⟩
    have hgs4 := HGS.out.step hg4 hst4 hr4
    have hbl := HGS.out.boxlt
    have hle := HGS.out.le
    obtain ⟨⟨z0, z1, z2, z3⟩, f0, f1, f2, f3⟩ := box_frozen hgs4.box
    have HFB := Lib.hid (hgs4.fin (V := V) (hty4.more (by omega) (Nat.le_refl _)) (hgd4.mono (by omega) (by omega)))
    clear hgs4 hty4 hgd4 hst4 hg4
    go_wp2
    generalize hWF : (((w4.setCell _ _).setCell _ _).setCell _ _).setCell _ _ = WF
    obtain ⟨hfin, zz0, zz1, zz2, zz3⟩ := HFB.out WF hWF.symm
    clear hWF
    exact bodyPost_ret (v := .agg #[.int .i64 T.kind, .string T.name, .int .i64 T.index, .slice A4 T.args.length c4]) (by simp [results, Tryd.results53, go_sem, zz0, zz1, zz2, zz3]) rfl hfin.out
  · skip
    go_wp2_with fail
    refine (HT.out hdp V r1 hV0 (by omega) hr1 _ sb G vd HGS.out.pre).mono ?_
    rintro e w4 ⟨T1, A1, c1, r2, rfl, hty1, hgd1, hr2, hst2, hg2⟩
    have HGS2 := Lib.hid (HGS.out.step hg2 hst2 hr2)
    have HTY1 := Lib.hid hty1
    have HGD1 := Lib.hid hgd1
    clear hty1 hgd1 hst2 hg2
    go_wp2_with fail
    refine (HT.out hdp V r2 hV0 (by omega) (by omega) _ sb G vd HGS2.out.pre).mono ?_
    rintro e w5 ⟨T2, A2, c2, r3, rfl, hty2, hgd2, hr3, hst3, hg3⟩
    have HGS3 := Lib.hid (HGS2.out.step hg3 hst3 hr3)
    have hbl := HGS.out.boxlt
    have hlts := HGS.out.lt
    have hbl2 := HGS2.out.boxlt
    have HGD2 := Lib.hid hgd2
    have hbl3 := HGS3.out.boxlt
    have HTY1' := Lib.hid (ty_grown HTY1.out hg3 (by omega))
    have HTW : Hid (∀ W : World, W = w5.alloc (.cells #[.int .i64 T1.kind, .string T1.name, .int .i64 T1.index, .slice A1 T1.args.length c1, .int .i64 T2.kind, .string T2.name, .int .i64 T2.index, .slice A2 T2.args.length c2] 25) → IsTyl W (w.heap.size + 1) W.heap.size [T1, T2] (.slice (some ⟨w5.heap.size, 0, none⟩) 2 2)) := Lib.hid (fun W hW => by
      subst hW
      exact IsTyl.two (blk_new _ _) (by omega) (by simp) ((HTY1'.out.below (below_new _ _) (Nat.le_refl _)).more (by omega) (by simp)) ((hty2.below (below_new _ _) (Nat.le_refl _)).more (by omega) (by simp)) 2)
    clear hst3 hg3 HTY1 hgd2
    go_wp2_with fail
    refine ((c_UnionTerm (w.heap.size + 1) [T1, T2] _ _ (HTW.out _ rfl)).mono RetTy.g).mono ?_
    rintro e w6 ⟨T, A4, c4, hT, rfl, hty4, hb4⟩
    have hgs4 := (HGS3.out.below (below_new _ _)).below hb4
    obtain ⟨⟨z0, z1, z2, z3⟩, f0, f1, f2, f3⟩ := box_frozen hgs4.box
    have hle := HGS.out.le
    have HFB := Lib.hid (hgs4.fin (V := V) hty4.out (by
      rw [hT.out]
      have g1 := HGD1.out
      have g2 := HGD2.out
      have s1 := g1.size
      have s2 := g2.size
      refine good_node 4 ⟨#[]⟩ [T1, T2] (by omega) (by omega) (by omega) (by simp) (fun t ht => ?_) (by simp only [Ty.sizes]; omega)
      rcases List.mem_cons.1 ht with rfl | ht
      · exact ⟨g1.ok, g1.nar, g1.closed⟩
      · rw [List.mem_singleton.1 ht]; exact ⟨g2.ok, g2.nar, g2.closed⟩))
    clear hgs4
    go_wp2
    generalize hWF : (((w6.setCell _ _).setCell _ _).setCell _ _).setCell _ _ = WF
    obtain ⟨hfin, zz0, zz1, zz2, zz3⟩ := HFB.out WF hWF.symm
    clear hWF
    exact bodyPost_ret (v := .agg #[.int .i64 T.kind, .string T.name, .int .i64 T.index, .slice A4 T.args.length c4]) (by simp [results, Tryd.results53, go_sem, zz0, zz1, zz2, zz3]) rfl hfin.out
  · skip
    go_wp2_with fail
    refine (HT.out hdp V r1 hV0 (by omega) hr1 _ sb G vd HGS.out.pre).mono ?_
    rintro e w4 ⟨T1, A1, c1, r2, rfl, hty1, hgd1, hr2, hst2, hg2⟩
    have HGS2 := Lib.hid (HGS.out.step hg2 hst2 hr2)
    have HTY1 := Lib.hid hty1
    have HGD1 := Lib.hid hgd1
    clear hty1 hgd1 hst2 hg2
    go_wp2_with fail
    refine (HT.out hdp V r2 hV0 (by omega) (by omega) _ sb G vd HGS2.out.pre).mono ?_
    rintro e w5 ⟨T2, A2, c2, r3, rfl, hty2, hgd2, hr3, hst3, hg3⟩
    have HGS3 := Lib.hid (HGS2.out.step hg3 hst3 hr3)
    have hbl := HGS.out.boxlt
    have hlts := HGS.out.lt
    have hbl2 := HGS2.out.boxlt
    have HGD2 := Lib.hid hgd2
    have hbl3 := HGS3.out.boxlt
    have HTY1' := Lib.hid (ty_grown HTY1.out hg3 (by omega))
    have HTW : Hid (∀ W : World, W = w5.alloc (.cells #[.int .i64 T1.kind, .string T1.name, .int .i64 T1.index, .slice A1 T1.args.length c1, .int .i64 T2.kind, .string T2.name, .int .i64 T2.index, .slice A2 T2.args.length c2] 25) → IsTyl W (w.heap.size + 1) W.heap.size [T1, T2] (.slice (some ⟨w5.heap.size, 0, none⟩) 2 2)) := Lib.hid (fun W hW => by
      subst hW
      exact IsTyl.two (blk_new _ _) (by omega) (by simp) ((HTY1'.out.below (below_new _ _) (Nat.le_refl _)).more (by omega) (by simp)) ((hty2.below (below_new _ _) (Nat.le_refl _)).more (by omega) (by simp)) 2)
    clear hst3 hg3 HTY1 hgd2
    go_wp2_with fail
    refine ((c_UnionTerm (w.heap.size + 1) [T1, T2] _ _ (HTW.out _ rfl)).mono RetTy.g).mono ?_
    rintro e w6 ⟨T, A4, c4, hT, rfl, hty4, hb4⟩
    have hgs4 := (HGS3.out.below (below_new _ _)).below hb4
    obtain ⟨⟨z0, z1, z2, z3⟩, f0, f1, f2, f3⟩ := box_frozen hgs4.box
    have hle := HGS.out.le
    have HFB := Lib.hid (hgs4.fin (V := V) hty4.out (by
      rw [hT.out]
      have g1 := HGD1.out
      have g2 := HGD2.out
      have s1 := g1.size
      have s2 := g2.size
      refine good_node 4 ⟨#[]⟩ [T1, T2] (by omega) (by omega) (by omega) (by simp) (fun t ht => ?_) (by simp only [Ty.sizes]; omega)
      rcases List.mem_cons.1 ht with rfl | ht
      · exact ⟨g1.ok, g1.nar, g1.closed⟩
      · rw [List.mem_singleton.1 ht]; exact ⟨g2.ok, g2.nar, g2.closed⟩))
    clear hgs4
    go_wp2
    generalize hWF : (((w6.setCell _ _).setCell _ _).setCell _ _).setCell _ _ = WF
    obtain ⟨hfin, zz0, zz1, zz2, zz3⟩ := HFB.out WF hWF.symm
    clear hWF
    exact bodyPost_ret (v := .agg #[.int .i64 T.kind, .string T.name, .int .i64 T.index, .slice A4 T.args.length c4]) (by simp [results, Tryd.results53, go_sem, zz0, zz1, zz2, zz3]) rfl hfin.out
  · skip
    have HB0 : Hid (∀ (w2 : World) (r2 : Nat) (W : World), W = wc.alloc (.cells #[.int .i64 3, .string ⟨#[]⟩, .int .i64 0, .slice none 0 0] 25) → W.grownBy w2 (some sb) → StreamR w2 sb r2 → GL V sb r2 wc.heap.size wc w2 3 ⟨#[]⟩ (.slice none 0 0) []) := Lib.hid (fun w2 r2 W hW hg hst => by
      subst hW
      have hlt := HGS.out.pre.st.lt
      exact ⟨r2, BL.start ((hg.block wc.heap.size (by simp) (by simp; omega)).trans (blk_new _ _)) (grown_trans' (grown_of_below (below_new _ _)) hg), hst, Nat.le_refl _, (fun t ht => by cases ht), by simp [Ty.sizes]⟩)
    go_wp2_with fail
    refine (c_NextR 4 sb _ _ (HGS.out.pre.st.below (below_new _ _) HGS.out.pre.st.lt) (by omega) (by omega)).mono ?_
    rintro e w2 ⟨m, r2, rfl, hm0, hm1, hst2, hg2, hr2, _⟩
    have HGL0 := Lib.hid (HB0.out w2 r2 _ rfl hg2 hst2)
    clear HB0 hst2 hg2
    obtain ⟨mn, rfl⟩ := Int.eq_ofNat_of_zero_le hm0
    have hsc := HGS.out.pre.st.lt
    go_wp2
    go_loopw [12] (fun i wr => ∃ j : Nat, j ≤ mn ∧ i = .int .i64 j ∧ Hid (∃ v ts, ts.length = j ∧ GL V sb r2 wc.heap.size wc wr 3 ⟨#[]⟩ v ts)) (fun i _ => mn - (intOf i).toNat)
    case atStart => exact ⟨0, by omega, rfl, Lib.hid ⟨_, [], rfl, HGL0.out⟩⟩
    case round =>
      obtain ⟨j, hj, rfl, HGL⟩ := hrel
      obtain ⟨v, ts, hlen, rj, hal, hstj, hrj, hall, hszs⟩ := HGL.out
      subst hlen
      have hgcr : wc.grownBy wr (some sb) := ⟨hal.2.1.os, hal.2.1.tape, hal.2.1.output, hal.2.1.size, hal.2.1.block⟩
      have HPR := Lib.hid ((HGS.out.pre.step hgcr hstj).below (below_drew wr))
      have HGSr := Lib.hid (HGS.out.step hgcr hstj (by omega))
      have HALL := Lib.hid hall
      have HSZ := Lib.hid hszs
      have HSTJ := Lib.hid hstj
      clear HGL HGL0 hall hszs hstj hgcr
      by_cases hjn : ts.length < mn
      · skip
        have HA := Lib.hid hal
        obtain ⟨A, c, rfl⟩ := hal.2.2.form
        have hltt := blk_lt' hal.1
        have hsgw := hal.2.1.size
        have HOG := Lib.hid hal.2.2.own_ge
        have b3 : wr.cell? ⟨wc.heap.size, 3, none⟩ = some (.slice A ts.length c) := hal.cell0.2.2.2
        obtain ⟨i0, hi0, hz0, hz1, hz2⟩ := info_parts info_Type
        have HI : Hid (i0.zero = some (.agg #[.int .i64 0, .string ⟨#[]⟩, .int .i64 0, .slice none 0 0]) ∧ i0.size = 4 ∧ i0.bytes = 56) := Lib.hid ⟨hz0, hz1, hz2⟩
        clear hz0 hz1 hz2
        have Hi0 := Lib.hid hi0
        clear hi0 hal
        have hL4 : wr.heap.size ≤ wr.drew.heap.size := Nat.le_refl _
        go_wp2
        go_region_law (first
          | (have _t := tok4; refine step_append_rd _ ?_ (.tmp 87) (.tmp 94) _ ?_ (wc.heap.size + 1) 25 i0 (.agg #[.int .i64 0, .string ⟨#[]⟩, .int .i64 0, .slice none 0 0]) 4 56 Tryd.underlying23 Hi0.out HI.out.1 HI.out.2.1 HI.out.2.2 rfl ?_ (.slice A ts.length c) ts.length xs ?_ ?_ (w4.heap.size + 1) (some ⟨w4.heap.size, 0, none⟩) 1 1 [.int .i64 t1.kind, .string t1.name, .int .i64 t1.index, .slice A1 t1.args.length c1] ?_ ?_ ?_ ?_ ?_ ?_; rfl; rfl; omega; rfl; exact hown4; rfl; exact Rd.blk (cs := #[.int .i64 t1.kind, .string t1.name, .int .i64 t1.index, .slice A1 t1.args.length c1]) (blk_new w4 _) rfl (by omega); exact (by simp [Value.oneCell']); omega; go_size; intro v5 w5 hown5 hg5 hat5
             have hs5 := hg5.size
             have ht5 := (hg5.block (wc.heap.size) (by simp; omega) (fun e => by have := HOG.out (wc.heap.size) e.symm; omega)).trans (blk_old ht4)
             have q3 : w5.cell? ⟨wc.heap.size, 3, none⟩ = some (.slice A ts.length c) := by rw [cell_of_row w5 (wc.heap.size) 3 _ _ _ ht5]; rfl
             have q4 : w5.frozen? ⟨wc.heap.size, 3, none⟩ = false := by simp [World.frozen?, ht5]
             obtain ⟨A5, c5, rfl⟩ : ∃ A c, v5 = .slice A (ts.length + 1) c := by
               rcases hown5.2 with ⟨_, h0⟩ | ⟨g, cap, cur, rfl, _⟩
               · omega
               · exact ⟨_, _, rfl⟩
             have HFIN := Lib.hid (HA.out.round (row_some (by omega)) (by omega) HG4.out hL4 HTY.out HEL.out hown4 hown5 hg5 hat5)
             have HST5 : Hid (StreamR (w5.setCell ⟨wc.heap.size, 3, none⟩ (.slice A5 (ts.length + 1) c5)) sb r4) := Lib.hid (((HST4.out.below (below_new _ _) HST4.out.lt).keep fun b hb => hg5.block b (by simp; omega) (fun e => by have := HOG.out b e.symm; omega)).keep fun b hb => Below.heap_setCell _ _ _ _ (by show b ≠ wc.heap.size; omega))
             clear hown5 hg5 hat5 ht5)
          | (go_simp; go_at_call 53; refine (HT.out hdp V rj hV0 (by omega) (by omega) _ sb G _ HPR.out).mono ?_; rintro e w4 ⟨t1, A1, c1, r4, rfl, hty1, hgd1, hr4, hst4, hg4⟩
             have HST4 := Lib.hid hst4
             have HGD := Lib.hid hgd1
             clear hst4 hgd1
             have tok4 : True := trivial
             have HTY := Lib.hid hty1
             have hs4 := hg4.size
             simp at hs4
             have hlt4 : wc.heap.size < w4.heap.size := by omega
             have ht4 := HA.out.box4 (row_some (by omega)) hg4
             have q43 : w4.cell? ⟨wc.heap.size, 3, none⟩ = some (.slice A ts.length c) := by rw [cell_of_row w4 (wc.heap.size) 3 _ _ _ ht4]; rfl
             obtain ⟨xs, hown4, hel4⟩ := HA.out.acc4 (row_some (by omega)) hg4 (.cells #[.int .i64 t1.kind, .string t1.name, .int .i64 t1.index, .slice A1 t1.args.length c1] 25)
             have HEL := Lib.hid hel4
             have HG4 := Lib.hid hg4
             clear hel4 hty1 hg4
             ))
        all_goals
          have HNX := Lib.hid (GL.next HFIN.out HST5.out hr4 hrj HALL.out HSZ.out HGD.out)
          clear HEL HG4 HTY hown4 q43 ht4 HA HFIN HST5 HGD HST4
          go_wp2
          go_roundw
          case rel => exact ⟨ts.length + 1, by omega, by go_num, Lib.hid ⟨_, _, by simp, HNX.out⟩⟩
          case measure => simp [intOf]; omega
      · obtain ⟨Av, cv, rfl⟩ := hal.2.2.form
        obtain ⟨⟨z0, z1, z2, z3⟩, f0, f1, f2, f3⟩ := box_frozen HGSr.out.box
        obtain ⟨y0, y1, y2, y3⟩ := hal.cell0
        have hbl := HGS.out.boxlt
        have HFB := Lib.hid (HGSr.out.fin (V := V) (t := ⟨3, ⟨#[]⟩, 0, ts⟩) ((hal.isTy (m := w.heap.size + 1) (by omega))) (good_node 3 ⟨#[]⟩ ts (by omega) (by omega) (by omega) (by omega) HALL.out (by have := HSZ.out; omega)))
        clear hal
        go_wp2
        generalize hWF : (((wr.setCell _ _).setCell _ _).setCell _ _).setCell _ _ = WF
        obtain ⟨hfin, zz0, zz1, zz2, zz3⟩ := HFB.out WF hWF.symm
        clear hWF
        have zz0' : WF.cell? ⟨w.heap.size, 0, none⟩ = some (.int .i64 3) := zz0
        have zz1' : WF.cell? ⟨w.heap.size, 1, none⟩ = some (.string ⟨#[]⟩) := zz1
        have zz2' : WF.cell? ⟨w.heap.size, 2, none⟩ = some (.int .i64 0) := zz2
        have zz3' : WF.cell? ⟨w.heap.size, 3, none⟩ = some (.slice Av ts.length cv) := zz3
        exact bodyPost_ret (v := .agg #[.int .i64 3, .string ⟨#[]⟩, .int .i64 0, .slice Av ts.length cv]) (by simp [results, Tryd.results53, go_sem, zz0', zz1', zz2', zz3']) rfl hfin.out
  · skip
    have HB0 : Hid (∀ (w2 : World) (r2 : Nat) (W : World), W = wc.alloc (.cells #[.int .i64 3, .string ⟨#[]⟩, .int .i64 0, .slice none 0 0] 25) → W.grownBy w2 (some sb) → StreamR w2 sb r2 → GL V sb r2 wc.heap.size wc w2 3 ⟨#[]⟩ (.slice none 0 0) []) := Lib.hid (fun w2 r2 W hW hg hst => by
      subst hW
      have hlt := HGS.out.pre.st.lt
      exact ⟨r2, BL.start ((hg.block wc.heap.size (by simp) (by simp; omega)).trans (blk_new _ _)) (grown_trans' (grown_of_below (below_new _ _)) hg), hst, Nat.le_refl _, (fun t ht => by cases ht), by simp [Ty.sizes]⟩)
    go_wp2_with fail
    refine (c_NextR 4 sb _ _ (HGS.out.pre.st.below (below_new _ _) HGS.out.pre.st.lt) (by omega) (by omega)).mono ?_
    rintro e w2 ⟨m, r2, rfl, hm0, hm1, hst2, hg2, hr2, _⟩
    have HGL0 := Lib.hid (HB0.out w2 r2 _ rfl hg2 hst2)
    clear HB0 hst2 hg2
    obtain ⟨mn, rfl⟩ := Int.eq_ofNat_of_zero_le hm0
    have hsc := HGS.out.pre.st.lt
    go_wp2
    go_loopw [12] (fun i wr => ∃ j : Nat, j ≤ mn ∧ i = .int .i64 j ∧ Hid (∃ v ts, ts.length = j ∧ GL V sb r2 wc.heap.size wc wr 3 ⟨#[]⟩ v ts)) (fun i _ => mn - (intOf i).toNat)
    case atStart => exact ⟨0, by omega, rfl, Lib.hid ⟨_, [], rfl, HGL0.out⟩⟩
    case round =>
      obtain ⟨j, hj, rfl, HGL⟩ := hrel
      obtain ⟨v, ts, hlen, rj, hal, hstj, hrj, hall, hszs⟩ := HGL.out
      subst hlen
      have hgcr : wc.grownBy wr (some sb) := ⟨hal.2.1.os, hal.2.1.tape, hal.2.1.output, hal.2.1.size, hal.2.1.block⟩
      have HPR := Lib.hid ((HGS.out.pre.step hgcr hstj).below (below_drew wr))
      have HGSr := Lib.hid (HGS.out.step hgcr hstj (by omega))
      have HALL := Lib.hid hall
      have HSZ := Lib.hid hszs
      have HSTJ := Lib.hid hstj
      clear HGL HGL0 hall hszs hstj hgcr
      by_cases hjn : ts.length < mn
      · skip
        have HA := Lib.hid hal
        obtain ⟨A, c, rfl⟩ := hal.2.2.form
        have hltt := blk_lt' hal.1
        have hsgw := hal.2.1.size
        have HOG := Lib.hid hal.2.2.own_ge
        have b3 : wr.cell? ⟨wc.heap.size, 3, none⟩ = some (.slice A ts.length c) := hal.cell0.2.2.2
        obtain ⟨i0, hi0, hz0, hz1, hz2⟩ := info_parts info_Type
        have HI : Hid (i0.zero = some (.agg #[.int .i64 0, .string ⟨#[]⟩, .int .i64 0, .slice none 0 0]) ∧ i0.size = 4 ∧ i0.bytes = 56) := Lib.hid ⟨hz0, hz1, hz2⟩
        clear hz0 hz1 hz2
        have Hi0 := Lib.hid hi0
        clear hi0 hal
        have hL4 : wr.heap.size ≤ wr.drew.heap.size := Nat.le_refl _
        go_wp2
        go_region_law (first
          | (have _t := tok4; refine step_append_rd _ ?_ (.tmp 87) (.tmp 94) _ ?_ (wc.heap.size + 1) 25 i0 (.agg #[.int .i64 0, .string ⟨#[]⟩, .int .i64 0, .slice none 0 0]) 4 56 Tryd.underlying23 Hi0.out HI.out.1 HI.out.2.1 HI.out.2.2 rfl ?_ (.slice A ts.length c) ts.length xs ?_ ?_ (w4.heap.size + 1) (some ⟨w4.heap.size, 0, none⟩) 1 1 [.int .i64 t1.kind, .string t1.name, .int .i64 t1.index, .slice A1 t1.args.length c1] ?_ ?_ ?_ ?_ ?_ ?_; rfl; rfl; omega; rfl; exact hown4; rfl; exact Rd.blk (cs := #[.int .i64 t1.kind, .string t1.name, .int .i64 t1.index, .slice A1 t1.args.length c1]) (blk_new w4 _) rfl (by omega); exact (by simp [Value.oneCell']); omega; go_size; intro v5 w5 hown5 hg5 hat5
             have hs5 := hg5.size
             have ht5 := (hg5.block (wc.heap.size) (by simp; omega) (fun e => by have := HOG.out (wc.heap.size) e.symm; omega)).trans (blk_old ht4)
             have q3 : w5.cell? ⟨wc.heap.size, 3, none⟩ = some (.slice A ts.length c) := by rw [cell_of_row w5 (wc.heap.size) 3 _ _ _ ht5]; rfl
             have q4 : w5.frozen? ⟨wc.heap.size, 3, none⟩ = false := by simp [World.frozen?, ht5]
             obtain ⟨A5, c5, rfl⟩ : ∃ A c, v5 = .slice A (ts.length + 1) c := by
               rcases hown5.2 with ⟨_, h0⟩ | ⟨g, cap, cur, rfl, _⟩
               · omega
               · exact ⟨_, _, rfl⟩
             have HFIN := Lib.hid (HA.out.round (row_some (by omega)) (by omega) HG4.out hL4 HTY.out HEL.out hown4 hown5 hg5 hat5)
             have HST5 : Hid (StreamR (w5.setCell ⟨wc.heap.size, 3, none⟩ (.slice A5 (ts.length + 1) c5)) sb r4) := Lib.hid (((HST4.out.below (below_new _ _) HST4.out.lt).keep fun b hb => hg5.block b (by simp; omega) (fun e => by have := HOG.out b e.symm; omega)).keep fun b hb => Below.heap_setCell _ _ _ _ (by show b ≠ wc.heap.size; omega))
             clear hown5 hg5 hat5 ht5)
          | (go_simp; go_at_call 53; refine (HT.out hdp V rj hV0 (by omega) (by omega) _ sb G _ HPR.out).mono ?_; rintro e w4 ⟨t1, A1, c1, r4, rfl, hty1, hgd1, hr4, hst4, hg4⟩
             have HST4 := Lib.hid hst4
             have HGD := Lib.hid hgd1
             clear hst4 hgd1
             have tok4 : True := trivial
             have HTY := Lib.hid hty1
             have hs4 := hg4.size
             simp at hs4
             have hlt4 : wc.heap.size < w4.heap.size := by omega
             have ht4 := HA.out.box4 (row_some (by omega)) hg4
             have q43 : w4.cell? ⟨wc.heap.size, 3, none⟩ = some (.slice A ts.length c) := by rw [cell_of_row w4 (wc.heap.size) 3 _ _ _ ht4]; rfl
             obtain ⟨xs, hown4, hel4⟩ := HA.out.acc4 (row_some (by omega)) hg4 (.cells #[.int .i64 t1.kind, .string t1.name, .int .i64 t1.index, .slice A1 t1.args.length c1] 25)
             have HEL := Lib.hid hel4
             have HG4 := Lib.hid hg4
             clear hel4 hty1 hg4
             ))
        all_goals
          have HNX := Lib.hid (GL.next HFIN.out HST5.out hr4 hrj HALL.out HSZ.out HGD.out)
          clear HEL HG4 HTY hown4 q43 ht4 HA HFIN HST5 HGD HST4
          go_wp2
          go_roundw
          case rel => exact ⟨ts.length + 1, by omega, by go_num, Lib.hid ⟨_, _, by simp, HNX.out⟩⟩
          case measure => simp [intOf]; omega
      · obtain ⟨Av, cv, rfl⟩ := hal.2.2.form
        obtain ⟨⟨z0, z1, z2, z3⟩, f0, f1, f2, f3⟩ := box_frozen HGSr.out.box
        obtain ⟨y0, y1, y2, y3⟩ := hal.cell0
        have hbl := HGS.out.boxlt
        have HFB := Lib.hid (HGSr.out.fin (V := V) (t := ⟨3, ⟨#[]⟩, 0, ts⟩) ((hal.isTy (m := w.heap.size + 1) (by omega))) (good_node 3 ⟨#[]⟩ ts (by omega) (by omega) (by omega) (by omega) HALL.out (by have := HSZ.out; omega)))
        clear hal
        go_wp2
        generalize hWF : (((wr.setCell _ _).setCell _ _).setCell _ _).setCell _ _ = WF
        obtain ⟨hfin, zz0, zz1, zz2, zz3⟩ := HFB.out WF hWF.symm
        clear hWF
        have zz0' : WF.cell? ⟨w.heap.size, 0, none⟩ = some (.int .i64 3) := zz0
        have zz1' : WF.cell? ⟨w.heap.size, 1, none⟩ = some (.string ⟨#[]⟩) := zz1
        have zz2' : WF.cell? ⟨w.heap.size, 2, none⟩ = some (.int .i64 0) := zz2
        have zz3' : WF.cell? ⟨w.heap.size, 3, none⟩ = some (.slice Av ts.length cv) := zz3
        exact bodyPost_ret (v := .agg #[.int .i64 3, .string ⟨#[]⟩, .int .i64 0, .slice Av ts.length cv]) (by simp [results, Tryd.results53, go_sem, zz0', zz1', zz2', zz3']) rfl hfin.out
  · skip
    go_wp2_with fail
    refine ((c_Any (w.heap.size + 1) _).mono RetTy.g).mono ?_
    rintro e w2 ⟨T1, A1, c1, hT1, rfl, hty1, hb2⟩
    have HGS2 := Lib.hid (HGS.out.below hb2)
    have hbl := HGS.out.boxlt
    have hlts := HGS.out.lt
    have hs2 := hb2.size
    go_wp2_with fail
    refine (c_NextR 2 sb _ _ (HGS2.out.pre.st.below (below_new _ _) HGS2.out.pre.st.lt) (by omega) (by omega)).mono ?_
    rintro e w3 ⟨y, r2, rfl, hy0, hy1, hst3, hg3, hr2, _⟩
    have HGX := Lib.hid ((HGS2.out.below (below_new _ _)).step hg3 hst3 hr2)
    have hbx := (hg3.block w2.heap.size (by simp) (by simp; omega)).trans (blk_new _ _)
    have hs3 := hg3.size
    simp at hs3
    by_cases hy : y = 1
    · subst hy
      clear hty1 hT1
      go_wp2_with fail
      refine (HT1.out r2 (by omega) _ sb G vd HGX.out.pre).mono ?_
      rintro e w4 ⟨T4, A4', c4', r4, rfl, hty4, hgd4, hr4, hst4, hg4⟩
      have hb4 := (hg4.block w2.heap.size (by omega) (by simp; omega)).trans hbx
      obtain ⟨⟨z0, z1, z2, z3⟩, f0, f1, f2, f3⟩ := box_frozen hb4
      have HSET := Lib.hid (GS.set4 (.int .i64 T4.kind) (.string T4.name) (.int .i64 T4.index) (.slice A4' T4.args.length c4') (HGX.out.step hg4 hst4 hr4) (by omega) HVD.out hb4)
      have HTY4 := Lib.hid hty4
      have HGD4 := Lib.hid hgd4
      clear hty4 hgd4 hst4 hg4 hb4 hbx HGX hst3 hg3
      go_wp2
      generalize hWX : (((w4.setCell _ _).setCell _ _).setCell _ _).setCell _ _ = wx
      obtain ⟨hgx, hbx, hs_, hss⟩ := HSET.out wx hWX.symm
      have HGX := Lib.hid hgx
      have HTX : Hid (IsTy wx (w.heap.size + 1) wx.heap.size T4 (.agg #[.int .i64 T4.kind, .string T4.name, .int .i64 T4.index, .slice A4' T4.args.length c4'])) := Lib.hid (HTY4.out.keep (fun b h1 h2 => hs_ b (by omega)) (by omega) (by rw [hss]; exact Nat.le_refl _))
      have HGDX := Lib.hid (HGD4.out.mono (V' := V) (by omega) (Nat.le_refl _))
      clear hWX hgx HSET HTY4 HGD4 hs_ z0 z1 z2 z3 f0 f1 f2 f3
      obtain ⟨⟨x0, x1, x2, x3⟩, _⟩ := box_frozen hbx
      have hslx := HGX.out.pre.st.lt
      have hbbx := blk_lt' hbx
      go_region_with (first
        | (go_at_call 53; refine (HT.out hdp (V + 1) r4 (by omega) (by omega) (by omega) _ sb G vd HGX.out.drew.pre).mono ?_; rintro e w7 ⟨T2, A2, c2, r7, rfl, hty2, hgd2, hr7, hst7, hg7⟩
           have HGX7 := Lib.hid (HGX.out.drew.step hg7 hst7 hr7)
           obtain ⟨⟨v0, v1, v2, v3⟩, _⟩ := box_frozen ((hg7.block w2.heap.size (by simp; omega) (by simp; omega)).trans hbx)
           have hkx : KeepIn (w.heap.size + 1) wx.heap.size wx w7 := fun b h1 h2 => hg7.block b h2 (by intro e; injection e with e; omega)
           have HTX7 := Lib.hid (HTX.out.keep hkx (Nat.le_refl _) hg7.size)
           have HTY2 := Lib.hid (hty2.more (L' := w.heap.size + 1) (by simp; omega) (Nat.le_refl _))
           have HGD2 := Lib.hid hgd2
           have hs7 := hg7.size
           clear hty2 hgd2 hst7 hg7)
        | (go_at_call 43; refine ((c_Exists (w.heap.size + 1) T4 T2 _ _ _ HTX7.out HTY2.out (by simp at hs7; omega)).mono RetTy.g).mono ?_; rintro e w8 ⟨T, A4, c4, hT, rfl, hty4, hb8⟩
           have hgs4 := HGX7.out.below hb8
           obtain ⟨⟨z0, z1, z2, z3⟩, f0, f1, f2, f3⟩ := box_frozen hgs4.box
           have HFB := Lib.hid (hgs4.fin (V := V) hty4.out (by
             rw [hT.out]
             have g1 := HGDX.out
             have g2 := HGD2.out
             have s1 := g1.size
             have s2 := g2.size
             exact good_exists ⟨g1.ok, g1.nar, g1.closed⟩ ⟨g2.ok, g2.nar, g2.closed⟩ (by omega)))
           clear hgs4))
      all_goals
        go_wp2
        generalize hWF : (((w8.setCell _ _).setCell _ _).setCell _ _).setCell _ _ = WF
        obtain ⟨hfin, zz0, zz1, zz2, zz3⟩ := HFB.out WF hWF.symm
        clear hWF
        exact bodyPost_ret (v := .agg #[.int .i64 T.kind, .string T.name, .int .i64 T.index, .slice A4 T.args.length c4]) (by simp [results, Tryd.results53, go_sem, zz0, zz1, zz2, zz3]) rfl hfin.out
    · have hy' : (y == 1) = false := by rw [beq_eq_false_iff_ne]; exact hy
      have HGDX : Hid (Good V 1 T1) := Lib.hid (by rw [hT1.out]; exact good_leaf 0 ⟨#[]⟩ (by omega) (by omega))
      have HTX : Hid (IsTy w3 (w.heap.size + 1) w3.heap.size T1 (.agg #[.int .i64 T1.kind, .string T1.name, .int .i64 T1.index, .slice A1 T1.args.length c1])) := Lib.hid (ty_grown ((hty1.out.below (below_new _ _) (Nat.le_refl _)).more (Nat.le_refl _) (by simp)) hg3 (by omega))
      clear hty1 hT1 hst3 hg3 hy
      go_wp2
      obtain ⟨⟨x0, x1, x2, x3⟩, _⟩ := box_frozen hbx
      have hslx := HGX.out.pre.st.lt
      have hbbx := blk_lt' hbx
      go_region_with (first
        | (go_at_call 53; refine (HT.out hdp (V + 1) r2 (by omega) (by omega) (by omega) _ sb G vd HGX.out.drew.pre).mono ?_; rintro e w7 ⟨T2, A2, c2, r7, rfl, hty2, hgd2, hr7, hst7, hg7⟩
           have HGX7 := Lib.hid (HGX.out.drew.step hg7 hst7 hr7)
           obtain ⟨⟨v0, v1, v2, v3⟩, _⟩ := box_frozen ((hg7.block w2.heap.size (by simp; omega) (by simp; omega)).trans hbx)
           have hkx : KeepIn (w.heap.size + 1) w3.heap.size w3 w7 := fun b h1 h2 => hg7.block b h2 (by intro e; injection e with e; omega)
           have HTX7 := Lib.hid (HTX.out.keep hkx (Nat.le_refl _) hg7.size)
           have HTY2 := Lib.hid (hty2.more (L' := w.heap.size + 1) (by simp; omega) (Nat.le_refl _))
           have HGD2 := Lib.hid hgd2
           have hs7 := hg7.size
           clear hty2 hgd2 hst7 hg7)
        | (go_at_call 43; refine ((c_Exists (w.heap.size + 1) T1 T2 _ _ _ HTX7.out HTY2.out (by simp at hs7; omega)).mono RetTy.g).mono ?_; rintro e w8 ⟨T, A4, c4, hT, rfl, hty4, hb8⟩
           have hgs4 := HGX7.out.below hb8
           obtain ⟨⟨z0, z1, z2, z3⟩, f0, f1, f2, f3⟩ := box_frozen hgs4.box
           have HFB := Lib.hid (hgs4.fin (V := V) hty4.out (by
             rw [hT.out]
             have g1 := HGDX.out
             have g2 := HGD2.out
             have s1 := g1.size
             have s2 := g2.size
             exact good_exists ⟨g1.ok, g1.nar, g1.closed⟩ ⟨g2.ok, g2.nar, g2.closed⟩ (by omega)))
           clear hgs4))
      all_goals
        go_wp2
        generalize hWF : (((w8.setCell _ _).setCell _ _).setCell _ _).setCell _ _ = WF
        obtain ⟨hfin, zz0, zz1, zz2, zz3⟩ := HFB.out WF hWF.symm
        clear hWF
        exact bodyPost_ret (v := .agg #[.int .i64 T.kind, .string T.name, .int .i64 T.index, .slice A4 T.args.length c4]) (by simp [results, Tryd.results53, go_sem, zz0, zz1, zz2, zz3]) rfl hfin.out
  · skip
    go_wp2_with fail
    refine (c_NextR 4 sb _ _ HGS.out.pre.st (by omega) (by omega)).mono ?_
    rintro e wd ⟨y, r2, rfl, hy0, hy1, hst2, hg2, hr2, _⟩
    have HGSo := HGS
    clear HGS
    have HGS := Lib.hid (HGSo.out.step hg2 hst2 hr2)
    clear hst2 hg2 HGSo
    by_cases hy : y = 0
    · subst hy
      go_wp2_with fail
      refine ((c_Never (w.heap.size + 1) _).mono RetTy.g).mono ?_
      rintro e w4 ⟨T, A4, c4, hT, rfl, hty4, hb4⟩
      have hgs4 := HGS.out.below hb4
      obtain ⟨⟨z0, z1, z2, z3⟩, f0, f1, f2, f3⟩ := box_frozen hgs4.box
      have HFB := Lib.hid (hgs4.fin (V := V) hty4.out (by rw [hT.out]; exact (good_leaf 1 ⟨#[]⟩ (by omega) (by omega)).mono (Int.le_refl _) (by omega)))
      clear hgs4
      go_wp2
      generalize hWF : (((w4.setCell _ _).setCell _ _).setCell _ _).setCell _ _ = WF
      obtain ⟨hfin, zz0, zz1, zz2, zz3⟩ := HFB.out WF hWF.symm
      clear hWF
      exact bodyPost_ret (v := .agg #[.int .i64 T.kind, .string T.name, .int .i64 T.index, .slice A4 T.args.length c4]) (by simp [results, Tryd.results53, go_sem, zz0, zz1, zz2, zz3]) rfl hfin.out
    · have hy' : (y == 0) = false := by rw [beq_eq_false_iff_ne]; exact hy
      have hbl := HGS.out.boxlt
      clear hy
      go_wp2_with fail
      refine ((c_Any (w.heap.size + 1) _).mono RetTy.g).mono ?_
      rintro e w4 ⟨T1, A1, c1, hT1, rfl, hty1, hb4⟩
      go_wp2_with fail
      refine ((c_Var (w.heap.size + 1) 0 _).mono RetTy.g).mono ?_
      rintro e w5 ⟨T2, A2, c2, hT2, rfl, hty2, hb5⟩
      have hs4 := hb4.size
      have hs5 := hb5.size
      have HTW : Hid (∀ W : World, W = w5.alloc (.cells #[.int .i64 T2.kind, .string T2.name, .int .i64 T2.index, .slice A2 T2.args.length c2] 25) → IsTyl W (w.heap.size + 1) W.heap.size [T2] (.slice (some ⟨w5.heap.size, 0, none⟩) 1 1)) := Lib.hid (fun W hW => by
        subst hW
        exact IsTyl.one (blk_new _ _) (by omega) (by simp) ((hty2.out.below (below_new _ _) (Nat.le_refl _)).more (Nat.le_refl _) (by simp)) 1)
      go_wp2_with fail
      refine ((c_Named (w.heap.size + 1) sBox [T2] _ _ (HTW.out _ rfl)).mono RetTy.g).mono ?_
      rintro e w6 ⟨T3, A3, c3, hT3, rfl, hty3, hb6⟩
      have hb56 : Below w5.heap.size w5 w6 := below_step (below_new _ _) hb6
      have hb46 : Below w4.heap.size w4 w6 := below_step hb5 hb56
      have hs6 := hb46.size
      have HTY1 := Lib.hid ((hty1.out.below hb46 (Nat.le_refl _)).more (Nat.le_refl _) hb46.size)
      have HGS6 := Lib.hid ((HGS.out.below hb4).below hb46)
      clear HTW hb6 hb56 hb46 hb5 hb4
      go_wp2_with fail
      refine ((c_Exists (w.heap.size + 1) T1 T3 _ _ _ HTY1.out hty3.out (by omega)).mono RetTy.g).mono ?_
      rintro e w7 ⟨T, A4, c4, hT, rfl, hty4, hb7⟩
      have hgs4 := HGS6.out.below hb7
      obtain ⟨⟨z0, z1, z2, z3⟩, f0, f1, f2, f3⟩ := box_frozen hgs4.box
      have hle := HGS.out.le
      have HFB := Lib.hid (hgs4.fin (V := V) hty4.out (by
        rw [hT.out, hT1.out, hT3.out, hT2.out]
        have g1 : Good V 1 tAny := good_leaf 0 ⟨#[]⟩ (by omega) (by omega)
        have g2 : Good 1 1 (tVar 0) := good_var (by omega) (by omega) (by decide)
        have g3 : Good 1 2 (tNamed sBox [tVar 0]) := good_node 2 sBox [tVar 0] (by omega) (by omega) (by omega) (by simp) (fun t ht => by rw [List.mem_singleton.1 ht]; exact ⟨g2.ok, g2.nar, g2.closed⟩) (by decide)
        have g3' := g3.mono (V' := V + 1) (by omega) (Nat.le_refl _)
        have s1 := g1.size
        have s3 := g3.size
        exact good_exists ⟨g1.ok, g1.nar, g1.closed⟩ ⟨g3'.ok, g3'.nar, g3'.closed⟩ (by omega)))
      clear hgs4
      go_wp2
      generalize hWF : (((w7.setCell _ _).setCell _ _).setCell _ _).setCell _ _ = WF
      obtain ⟨hfin, zz0, zz1, zz2, zz3⟩ := HFB.out WF hWF.symm
      clear hWF
      exact bodyPost_ret (v := .agg #[.int .i64 T.kind, .string T.name, .int .i64 T.index, .slice A4 T.args.length c4]) (by simp [results, Tryd.results53, go_sem, zz0, zz1, zz2, zz3]) rfl hfin.out
end Go.Proofs.YtdbflfakocaapaaDoor
