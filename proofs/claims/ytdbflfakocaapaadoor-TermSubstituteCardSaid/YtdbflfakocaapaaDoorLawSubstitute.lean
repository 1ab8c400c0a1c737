/- The walk of tellaw2.TermSubstitute: it returns true. -/
import Derived.Test.YtdbflfakocaapaaDoorLawAid
import Derived.Test.YtdbflfakocaapaaDoorCons
import Derived.Deep.RegionHeld3
namespace Go.Proofs.YtdbflfakocaapaaDoor
open Go.RowKit
attribute [local go_sem ↓] Go.wp_at_zero Go.wp_at_succ

set_option maxRecDepth 20000 in
set_option maxHeartbeats 8000000 in
theorem c_lawTermSubstitute (x0 x1 : List Int) (v0 v1 : Value) (vars : Int) (w : World) (G : Nat) (hv0 : IsInts w w.heap.size x0 v0) (hv1 : IsInts w w.heap.size x1 v1) (hx0 : ∀ x ∈ x0, inI x) (hx1 : ∀ x ∈ x1, inI x) (hn0 : x0.length ≤ 2 ^ 47) (hn1 : x1.length ≤ 2 ^ 47) (_ : inI vars) (hE : EnvR w G) (hN : EnvN 1 4 w G) (hG : G ≤ w.heap.size) :
    Calls Tryd.prog 10 #[v0, v1, .int .i64 vars] w fun e w' => e = .returned (.bool true) ∧ Below w.heap.size w w' := by
  have HV0 := Lib.hid hv0
  have HV1 := Lib.hid hv1
  have HX0 := Lib.hid hx0
  have HX1 := Lib.hid hx1
  have HE := Lib.hid hE
  have HN := Lib.hid hN
  obtain ⟨E0, d0, rfl, _⟩ := hv0
  obtain ⟨E1, d1, rfl, _⟩ := hv1
  clear hE hN hx0 hx1
  generalize hln0 : x0.length = m0 at *
  generalize hln1 : x1.length = m1 at *
  have HL0 := Lib.hid hln0
  have HL1 := Lib.hid hln1
  clear hln0 hln1
  go_enter Tryd.func10, Tryd.ntmps10
  go_wp2_with fail
  refine (c_NewR x0 _ w HV0.out HX0.out (by rw [HL0.out]; omega)).mono ?_
  rintro e w1 ⟨rfl, hst1, hb1, hs1⟩
  have HST1 := Lib.hid hst1
  clear hst1
  go_wp2_with fail
  refine (c_Base w1).mono ?_
  rintro e w2 ⟨vd, rfl, hd2, hb2⟩
  have HP := Lib.hid (gpreA HST1.out hb1 hs1 hd2 hb2 HN.out hG)
  have hs2 := hb2.size
  clear hd2
  go_wp2_with fail
  have hmod := Int.emod_nonneg vars (show (4 : Int) ≠ 0 by omega)
  have hmod2 := Int.emod_lt_of_pos vars (show (0 : Int) < 4 by omega)
  refine (c_Mod_q vars 4 _ (by omega) (by omega)).mono ?_
  generalize vars % 4 = q at *
  rintro e wn ⟨rfl, rfl⟩
  go_wp2_with fail
  refine (c_OpenTerm q hmod (by omega) _ w.heap.size _ G vd HP.out).mono ?_
  rintro e w3 ⟨T1, A1, c1, r3, rfl, hty1, hgd1, hr3, hst3, hg3⟩
  have hb3 : Below w.heap.size w w3 := (below_step hb1 (hb2.mono (by omega))).trans (grownA hg3 (Nat.le_refl _) (by omega))
  have hs3 := hb3.size
  have HTY1 := Lib.hid hty1
  have HGD1 : Hid (Good 3 (2 ^ 50) T1) := Lib.hid (hgd1.mono (by omega) (by rw [HL0.out]; omega))
  have HB4 : Hid (∀ W : World, W = w3.alloc (.cells #[.int .i64 T1.kind, .string T1.name, .int .i64 T1.index, .slice A1 T1.args.length c1] 25) → W.heap[w3.heap.size]? = some (.cells #[.int .i64 T1.kind, .string T1.name, .int .i64 T1.index, .slice A1 T1.args.length c1] 25 (0, 0)) ∧ Below w3.heap.size w3 W ∧ W.heap.size = w3.heap.size + 1) := Lib.hid (fun W hW => by
    subst hW
    exact ⟨blk_new _ _, below_new _ _, by simp⟩)
  clear hty1 hgd1 hst3 hg3 hr3 HST1 HP hb1 hb2 hs1 hs2
  go_wp2_with fail
  generalize hW4 : w3.alloc _ = w4
  obtain ⟨hbox4, hb34, hs34⟩ := HB4.out w4 hW4.symm
  have hs34a : w3.heap.size + 1 ≤ w4.heap.size := Nat.le_of_eq hs34.symm
  have hs34b : w4.heap.size ≤ w3.heap.size + 1 := Nat.le_of_eq hs34
  clear hs34
  have HBOX4 := Lib.hid hbox4
  clear hW4 HB4 hbox4
  have hb4 : Below w.heap.size w w4 := hb3.trans (hb34.mono hs3)
  refine (c_NewR x1 _ w4 ((HV1.out.below hb4 (Nat.le_refl _)).more hb4.size) HX1.out (by rw [HL1.out]; omega)).mono ?_
  rintro e w5 ⟨rfl, hst5, hb5, hs5⟩
  have HST5 := Lib.hid hst5
  clear hst5
  go_wp2_with fail
  refine (c_Base w5).mono ?_
  rintro e w6 ⟨vd2, rfl, hd6, hb6⟩
  have hs6 := hb6.size
  have hs5a : w4.heap.size + 1 ≤ w5.heap.size := Nat.le_of_eq hs5.symm
  have HP2 := Lib.hid (gpreA HST5.out hb5 hs5 hd6 hb6 (HN.out.keep fun b hb => hb4.block b (by omega)) (by omega))
  clear hd6 hs5
  go_wp2_with fail
  refine (c_Term w6 w4.heap.size _ G vd2 HP2.out).mono ?_
  rintro e w7 ⟨B1, A2, c2, r7, rfl, hty7, hgd7, hr7, hst7, hg7⟩
  have hb47 : Below w4.heap.size w4 w7 := (below_step hb5 (hb6.mono (by omega))).trans (grownA hg7 (Nat.le_refl _) (by omega))
  have hs7 := hg7.size
  have HTY7 := Lib.hid hty7
  have HGD7 : Hid (Good 0 (2 ^ 50) B1) := Lib.hid (hgd7.mono (by omega) (by rw [HL1.out]; omega))
  have HST7 := Lib.hid hst7
  clear hty7 hgd7 hg7 HST5 hst7
  go_wp2_with fail
  refine (c_Base w7).mono ?_
  rintro e w8 ⟨vd3, rfl, hd8, hb8⟩
  have hs8 := hb8.size
  have HP3 : Hid (GPre w4.heap.size r7 G vd3 w8) := Lib.hid (by
    obtain ⟨g, hv, hl, hg, hds⟩ := hd8
    exact ⟨HST7.out.below hb8 HST7.out.lt, ((HN.out.keep fun b hb => hb4.block b (by omega)).keep fun b hb => hb47.block b (by omega)).keep fun b hb => hb8.block b (by omega), by omega, ⟨g, hv, by have := HST7.out.lt; omega, hg, hds⟩⟩)
  clear hd8 HP2
  go_wp2_with fail
  refine (c_Term w8 w4.heap.size _ G vd3 HP3.out).mono ?_
  rintro e w9 ⟨B2, A3, c3, r9, rfl, hty9, hgd9, hr9, hst9, hg9⟩
  have hlt7 := HST7.out.lt
  have hb49 : Below w4.heap.size w4 w9 := (hb47.trans (hb8.mono (by omega))).trans (grownA hg9 (Nat.le_refl _) (by omega))
  have hs9 := hg9.size
  have HTB1 : Hid (IsTy w9 0 w9.heap.size B1 (.agg #[.int .i64 B1.kind, .string B1.name, .int .i64 B1.index, .slice A2 B1.args.length c2])) := Lib.hid (HTY7.out.keep (fun b h1 h2 => (hg9.block b (by omega) (by intro e; injection e with e; omega)).trans (hb8.block b (by omega))) (Nat.zero_le _) (by omega))
  have HTB2 : Hid (IsTy w9 0 w9.heap.size B2 (.agg #[.int .i64 B2.kind, .string B2.name, .int .i64 B2.index, .slice A3 B2.args.length c3])) := Lib.hid (hty9.more (Nat.zero_le _) (Nat.le_refl _))
  have hb39 : Below w3.heap.size w3 w9 := hb34.trans (hb49.mono (by omega))
  have HTT1 : Hid (IsTy w9 0 w9.heap.size T1 (.agg #[.int .i64 T1.kind, .string T1.name, .int .i64 T1.index, .slice A1 T1.args.length c1])) := Lib.hid ((HTY1.out.below hb39 (Nat.le_refl _)).more (Nat.zero_le _) hb39.size)
  have HGD9 : Hid (Good 0 (2 ^ 50) B2) := Lib.hid (hgd9.mono (by omega) (by have := HL1.out; omega))
  have HBOX9 := Lib.hid ((hb49.block w3.heap.size (by omega)).trans HBOX4.out)
  have hb09 : Below w.heap.size w w9 := hb4.trans (hb49.mono hb4.size)
  have HB10 := Lib.hid (two_tys HTB1.out HTB2.out (Nat.le_refl _))
  clear hty9 hgd9 hg9 hst9 HTY7 HTY1 HST7 HP3 HBOX4
  have HCK : Hid (∀ W : World, Below w9.heap.size w9 W → Calls Tryd.prog 14 #[] W fun e w' => e = .returned (.bool true) ∧ Below W.heap.size W w') := Lib.hid (fun W hW => c_check W G ((HE.out.below hb09 hG).below hW (by have := hb09.size; omega)) (by have := hW.size; have := hb09.size; omega))
  have HTS := Lib.hid (repl_good (fSub_good HGD7.out.nar HGD7.out.ok) T1 0 HGD1.out.nar HGD1.out.ok (by omega)).1
  have HTI : Hid ((T1.repl (fInst [B1, B2]) 0).nar) := Lib.hid (repl_good (fInst_good (M := max B1.depth B2.depth) (l := [B1, B2]) fun b hb => by
    rcases List.mem_cons.1 hb with rfl | hb
    · exact ⟨HGD7.out.nar, HGD7.out.ok, by omega⟩
    · rcases List.mem_cons.1 hb with rfl | hb
      · exact ⟨HGD9.out.nar, HGD9.out.ok, by omega⟩
      · cases hb) T1 0 HGD1.out.nar HGD1.out.ok (by omega)).1
  have hdp := Ty.depth_le T1
  have hsz := HGD1.out.size
  have HSB : Hid (∀ W : World, Below w9.heap.size w9 W → Calls Tryd.prog 42 #[.agg #[.int .i64 T1.kind, .string T1.name, .int .i64 T1.index, .slice A1 T1.args.length c1], .agg #[.int .i64 B1.kind, .string B1.name, .int .i64 B1.index, .slice A2 B1.args.length c2]] W (RetT (T1.repl (fSub B1) 0) W)) := Lib.hid (fun W hW => (c_SubstituteD T1 B1 W _ _ _ _ _ _ (HTT1.out.below hW (Nat.le_refl _)) (HTB1.out.below hW (Nat.le_refl _)) hW.size hW.size HGD1.out.nar HGD7.out.nar HGD1.out.ok (by omega) (Nat.le_trans HGD7.out.size (by omega))).mono NewTy.ret)
  have HRS : Hid (∀ W : World, Below w9.heap.size w9 W → Calls Tryd.prog 46 #[.agg #[.int .i64 T1.kind, .string T1.name, .int .i64 T1.index, .slice A1 T1.args.length c1], .agg #[.int .i64 B1.kind, .string B1.name, .int .i64 B1.index, .slice A2 B1.args.length c2]] W (RetT (T1.repl (fSub B1) 0) W)) := Lib.hid (fun W hW => (c_rSubstitute T1 B1 A2 c2 W _ _ (HTT1.out.below hW (Nat.le_refl _)).p (HTB1.out.below hW (Nat.le_refl _)).p (fun b hb => Nat.lt_of_lt_of_le hb.2 hW.size) HGD1.out.nar HGD1.out.ok (by omega)).mono (SubR.ret (fun b hb => Nat.lt_of_lt_of_le hb.2 hW.size)))
  have HMI : Hid (∀ b ∈ [B1, B2], b.nar ∧ b.size ≤ 2 ^ 60) := Lib.hid (fun b hb => by
    rcases List.mem_cons.1 hb with rfl | hb
    · exact ⟨HGD7.out.nar, Nat.le_trans HGD7.out.size (by omega)⟩
    · rcases List.mem_cons.1 hb with rfl | hb
      · exact ⟨HGD9.out.nar, Nat.le_trans HGD9.out.size (by omega)⟩
      · cases hb)
  have HIN : Hid (∀ wz W : World, IsTyl wz 0 wz.heap.size [B1, B2] (.slice (some ⟨w9.heap.size, 0, none⟩) 2 2) → Below w9.heap.size w9 wz → Below wz.heap.size wz W → Calls Tryd.prog 47 #[.agg #[.int .i64 T1.kind, .string T1.name, .int .i64 T1.index, .slice A1 T1.args.length c1], .slice (some ⟨w9.heap.size, 0, none⟩) 2 2] W (RetT (T1.repl (fInst [B1, B2]) 0) W)) := Lib.hid (fun wz W hl hz hW => (c_InstantiateD T1 [B1, B2] W _ _ _ _ _ _ (HTT1.out.below (below_step hz hW) (Nat.le_refl _)) (hl.keep (KeepIn.of_below hW (Nat.le_refl _)) (Nat.le_refl _) (Nat.le_refl _)) (below_step hz hW).size hW.size HGD1.out.nar HMI.out (show 2 ≤ 2 ^ 40 by decide) HGD1.out.ok (by omega)).mono NewTy.ret)
  have HRI : Hid (∀ wz W : World, IsTyl wz 0 wz.heap.size [B1, B2] (.slice (some ⟨w9.heap.size, 0, none⟩) 2 2) → Below w9.heap.size w9 wz → Below wz.heap.size wz W → Calls Tryd.prog 48 #[.agg #[.int .i64 T1.kind, .string T1.name, .int .i64 T1.index, .slice A1 T1.args.length c1], .slice (some ⟨w9.heap.size, 0, none⟩) 2 2] W (RetT (T1.repl (fInst [B1, B2]) 0) W)) := Lib.hid (fun wz W hl hz hW => (c_rInstantiate T1 [B1, B2] _ 2 2 W (fun b => b < W.heap.size) _ ((HTT1.out.below (below_step hz hW) (Nat.le_refl _)).p.keep (fun _ _ => rfl) (fun b hb => Nat.lt_of_lt_of_le hb.2 (below_step hz hW).size)) ((hl.keep (KeepIn.of_below hW (Nat.le_refl _)) (Nat.le_refl _) (Nat.le_refl _)).p (fun b hb => Nat.lt_of_lt_of_le hb.2 hW.size)) (fun b hb => hb) HGD1.out.nar HGD1.out.ok (by omega)).mono (SubR.ret (fun b hb => hb)))
  clear HTT1 HTB1 HTB2 HMI HGD1 HGD7 HGD9 hdp hsz
  generalize T1.repl (fSub B1) 0 = TS, T1.repl (fInst [B1, B2]) 0 = TI at *
  generalize hLB : [B1, B2] = LB at *
  clear hLB
  generalize T1.kind = k1, T1.name = n1, T1.index = i1, T1.args.length = l1 at *
  generalize B1.kind = k2, B1.name = n2, B1.index = i2, B1.args.length = l2, B2.kind = k3, B2.name = n3, B2.index = i3, B2.args.length = l3 at *
  go_wp2
  generalize hW10 : w9.alloc _ = w10
  obtain ⟨htl, hb10, hlt10, hbx10⟩ := HB10.out w10 hW10.symm
  have HTL := Lib.hid htl
  clear hW10 HB10 htl
  have SK := Lib.hid (box_sk2 (box_frozen ((hb10.block w3.heap.size (by have := hb39.size; have := hb49.size; omega)).trans HBOX9.out)).1 hbx10 (by have := hb49.size; omega) hlt10)
  clear hbx10 HBOX9
  go_region_held3 (fun W' : World => Below w10.heap.size w10 W' ∧ (W'.cell? ⟨w3.heap.size, 0, none⟩ = some (.int .i64 k1) ∧ W'.cell? ⟨w3.heap.size, 1, none⟩ = some (.string n1) ∧ W'.cell? ⟨w3.heap.size, 2, none⟩ = some (.int .i64 i1) ∧ W'.cell? ⟨w3.heap.size, 3, none⟩ = some (.slice A1 l1 c1)) ∧ (W'.cell? ⟨w9.heap.size, 0, none⟩ = some (.int .i64 k2) ∧ W'.cell? ⟨w9.heap.size, 1, none⟩ = some (.string n2) ∧ W'.cell? ⟨w9.heap.size, 2, none⟩ = some (.int .i64 i2) ∧ W'.cell? ⟨w9.heap.size, 3, none⟩ = some (.slice A2 l2 c2)))
    (first | exact SK.out _ (below_drew _) | exact SK.out _ (below_step (And.left (by assumption)) hbn))
    (first
    | (go_at_call 14; refine (HCK.out _ ?hbel0).mono ?_; (case hbel0 => exact below_step hb10 (And.left (by assumption))); rintro e wn ⟨rfl, hbn⟩)
    | (go_at_call 42; refine (HSB.out _ ?hbel1).mono ?_; (case hbel1 => exact below_step hb10 (And.left (by assumption))); rintro e wa ⟨ua, rfl, hta, hbn⟩)
    | (go_at_call 46; refine (HRS.out _ ?hbel2).mono ?_; (case hbel2 => exact below_step hb10 (And.left (by assumption))); rintro e wb ⟨ub, rfl, htb, hbn⟩; have hbb := hbn)
    | (go_at_call 47; refine (HIN.out _ _ HTL.out hb10 ?hbel3).mono ?_; (case hbel3 => exact And.left (by assumption)); rintro e wc ⟨uc, rfl, htc, hbn⟩)
    | (go_at_call 48; refine (HRI.out _ _ HTL.out hb10 ?hbel4).mono ?_; (case hbel4 => exact And.left (by assumption)); rintro e wd ⟨ud, rfl, htd, hbn⟩; have hbd := hbn)
    | (go_at_call_of 37 ua; refine (c_EqualT TS _ ua ub HTS.out (hta.out.grow hbb) htb.out).mono ?_; rintro e wn ⟨rfl, hbn⟩)
    | (go_at_call_of 37 uc; refine (c_EqualT TI _ uc ud HTI.out (htc.out.grow hbd) htd.out).mono ?_; rintro e wn ⟨rfl, hbn⟩)
    | (go_at_call_of 39 ua; refine (c_TermEqualT TS _ ua ub HTS.out (hta.out.grow hbb) htb.out).mono ?_; rintro e wl ⟨rfl, hbn⟩))
  have hbl : Below w10.heap.size w10 wl := And.left (by assumption)
  go_wp2
  go_ret
  exact ⟨rfl, hb09.trans ((below_step hb10 hbl).mono hb09.size)⟩
end Go.Proofs.YtdbflfakocaapaaDoor
