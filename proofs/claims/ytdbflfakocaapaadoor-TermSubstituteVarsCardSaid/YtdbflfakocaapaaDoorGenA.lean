/- The walk of telmake.arg, given contracts of what it calls. -/
import Derived.Test.YtdbflfakocaapaaDoorGenP
import Derived.Deep.RegionWith
namespace Go.Proofs.YtdbflfakocaapaaDoor
open Go.RowKit
attribute [local go_sem ↓] Go.wp_at_zero Go.wp_at_succ

set_option maxRecDepth 20000 in
set_option maxHeartbeats 4000000 in
theorem arg_walk (d V : Int) (r : Nat) (hd : d ≤ 10) (hV0 : 0 ≤ V) (hV : V ≤ 100) (HN : 0 < d → ∀ r1, r1 ≤ r → GenAt 75 d V r1) (HT : 0 < d → ∀ r1, r1 ≤ r → GenAt 53 (d - 1) 0 r1) : GenAt 91 d V r := by
  intro w sb G vd hpre
  have HN := Lib.hid HN
  have HT := Lib.hid HT
  have HG0 := Lib.hid (GS.start hpre)
  obtain ⟨gd, rfl, hne, hgd, hds⟩ := hpre.decls
  clear hpre hds
  generalize hvd : Value.slice (some ⟨gd, 0, none⟩) 8 8 = vd at *
  clear hvd hne hgd
  go_enter Tryd.func91, Tryd.ntmps91
  go_wp2_with fail
  refine (c_NextR 6 sb _ _ HG0.out.pre.st (by omega) (by omega)).mono ?_
  rintro e wc ⟨x, r1, rfl, hx0, hx1, hst1, hg1, hr1, _⟩
  have HGS := Lib.hid (HG0.out.step hg1 hst1 hr1)
  clear HG0 hst1 hg1
  by_cases h1 : x < 2 ∧ 0 < V
  · obtain ⟨h1, h2⟩ := h1
    go_wp2_with fail
    refine (c_NextR V sb _ _ HGS.out.pre.st (by omega) (by omega)).mono ?_
    rintro e w3 ⟨y, r3, rfl, hy0, hy1, hst3, hg3, hr3, _⟩
    have HGS3 := Lib.hid (HGS.out.step hg3 hst3 hr3)
    clear hst3 hg3
    go_wp2_with fail
    refine ((c_Var (w.heap.size + 1) y _).mono RetTy.g).mono ?_
    rintro e w4 ⟨T, A4, c4, hT, rfl, hty4, hb4⟩
    have hgs4 := HGS3.out.below hb4
    obtain ⟨⟨z0, z1, z2, z3⟩, f0, f1, f2, f3⟩ := box_frozen hgs4.box
    have HFB := Lib.hid (hgs4.fin (V := V) hty4.out (by rw [hT.out]; exact (good_var hy0 (by omega) (by omega)).mono (Int.le_refl _) (by omega)))
    clear hgs4
    go_wp2
    generalize hWF : (((w4.setCell _ _).setCell _ _).setCell _ _).setCell _ _ = WF
    obtain ⟨hfin, zz0, zz1, zz2, zz3⟩ := HFB.out WF hWF.symm
    clear hWF
    exact bodyPost_ret (v := .agg #[.int .i64 T.kind, .string T.name, .int .i64 T.index, .slice A4 T.args.length c4]) (by simp [results, Tryd.results91, go_sem, zz0, zz1, zz2, zz3]) rfl hfin.out
  have hc : (x < 2 ∧ ¬ 0 < V) ∨ ¬ x < 2 := by omega
  by_cases h2 : d ≤ 0
  · rcases hc with ⟨h3, h4⟩ | h3
    all_goals
      go_wp2
      have hEW := HGS.out.pre.env
      obtain ⟨ga, oa, ca, hga, hgaG, hstr⟩ := hEW.open_ (by omega)
      have HSTR := Lib.hid hstr
      have hgl : 1 < G := hEW.1
      have hGs := HGS.out.pre.hG
      have hsl := HGS.out.pre.st.lt
      clear hstr hEW
      go_region_with (first
        | (go_at_call 49; refine (c_NextR 4 sb _ _ (HGS.out.drew.pre.st) (by omega) (by omega)).mono ?_; rintro e w3 ⟨y, r3, rfl, hy0, hy1, hst3, hg3, hr3, _⟩
           have hgs3 := HGS.out.drew.step hg3 hst3 hr3
           have hga3 := (World.cell?_of_block (a := ⟨1, 0, none⟩) (hg3.block 1 (by simp; omega) (by simp; omega))).trans hga
           obtain ⟨yn, rfl⟩ := Int.eq_ofNat_of_zero_le hy0
           obtain ⟨sr, hsr⟩ := HSTR.out yn (by omega)
           have hsr3 := (World.cell?_of_block (a := ⟨ga, oa + yn, none⟩) (hg3.block ga (by simp; omega) (by simp; omega))).trans hsr
           have HGS3 := Lib.hid hgs3
           have hyn : yn < 4 := by omega
           have hyn1 : (yn : Int) < 4 := by omega
           have hyn0 : (0 : Int) ≤ (yn : Int) := by omega
           clear hst3 hgs3 hsr hg3)
        | (go_at_call 22; refine ((c_Named (w.heap.size + 1) sr [] _ _ (IsTyl.nil none 0)).mono RetTy.g).mono ?_; rintro e w4 ⟨T, A4, c4, hT, rfl, hty4, hb4⟩
           have hgs4 := HGS3.out.below hb4
           obtain ⟨⟨z0, z1, z2, z3⟩, f0, f1, f2, f3⟩ := box_frozen hgs4.box
           have HFB := Lib.hid (hgs4.fin (V := V) hty4.out (by rw [hT.out]; exact (good_leaf 2 sr (by omega) (by omega)).mono (Int.le_refl _) (by omega)))
           clear hgs4))
      all_goals
        go_wp2
        generalize hWF : (((w4.setCell _ _).setCell _ _).setCell _ _).setCell _ _ = WF
        obtain ⟨hfin, zz0, zz1, zz2, zz3⟩ := HFB.out WF hWF.symm
        clear hWF
        exact bodyPost_ret (v := .agg #[.int .i64 T.kind, .string T.name, .int .i64 T.index, .slice A4 T.args.length c4]) (by simp [results, Tryd.results91, go_sem, zz0, zz1, zz2, zz3]) rfl hfin.out
  by_cases h5 : x < 4
  · rcases hc with ⟨h3, h4⟩ | h3
    all_goals
      go_wp2_with fail
      refine (HN.out (by omega) r1 hr1 _ sb G vd HGS.out.pre).mono ?_
      rintro e w4 ⟨T, A4, c4, r4, rfl, hty4, hgd4, hr4, hst4, hg4⟩
      have hgs4 := HGS.out.step hg4 hst4 hr4
      have hbl := HGS.out.boxlt
      have hle := HGS.out.le
      obtain ⟨⟨z0, z1, z2, z3⟩, f0, f1, f2, f3⟩ := box_frozen hgs4.box
      have HFB := Lib.hid (hgs4.fin (V := V) (hty4.more (by omega) (Nat.le_refl _)) (hgd4.mono (by omega) (by omega)))
      clear hgs4 hty4 hgd4 hst4 hg4
      go_wp2
      generalize hWF : (((w4.setCell _ _).setCell _ _).setCell _ _).setCell _ _ = WF
      obtain ⟨hfin, zz0, zz1, zz2, zz3⟩ := HFB.out WF hWF.symm
      clear hWF
      exact bodyPost_ret (v := .agg #[.int .i64 T.kind, .string T.name, .int .i64 T.index, .slice A4 T.args.length c4]) (by simp [results, Tryd.results91, go_sem, zz0, zz1, zz2, zz3]) rfl hfin.out
  · have h3 : ¬ x < 2 := by omega
    have hw : IntKind.i64.wrap (d - 1) = d - 1 := IntWalk.i64_in _ (by omega)
    go_wp2_with fail
    refine (HT.out (by omega) r1 hr1 _ sb G vd HGS.out.pre).mono ?_
    rintro e w4 ⟨T, A4, c4, r4, rfl, hty4, hgd4, hr4, hst4, hg4⟩
    have hgs4 := HGS.out.step hg4 hst4 hr4
    have hbl := HGS.out.boxlt
    have hle := HGS.out.le
    obtain ⟨⟨z0, z1, z2, z3⟩, f0, f1, f2, f3⟩ := box_frozen hgs4.box
    have HFB := Lib.hid (hgs4.fin (V := V) (hty4.more (by omega) (Nat.le_refl _)) (hgd4.mono (by omega) (by omega)))
    clear hgs4 hty4 hgd4 hst4 hg4
    go_wp2
    generalize hWF : (((w4.setCell _ _).setCell _ _).setCell _ _).setCell _ _ = WF
    obtain ⟨hfin, zz0, zz1, zz2, zz3⟩ := HFB.out WF hWF.symm
    clear hWF
    exact bodyPost_ret (v := .agg #[.int .i64 T.kind, .string T.name, .int .i64 T.index, .slice A4 T.args.length c4]) (by simp [results, Tryd.results91, go_sem, zz0, zz1, zz2, zz3]) rfl hfin.out
end Go.Proofs.YtdbflfakocaapaaDoor
