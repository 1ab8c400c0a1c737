/- The walk of tellaw2.TermCompare at slices of at most 2^20 integers: it returns true. -/
import Derived.Test.YtdbflfakocaapaaDoorGen
import Derived.Test.YtdbflfakocaapaaDoorCompare
import Derived.Test.YtdbflfakocaapaaDoorHeld
import Derived.Deep.RegionHeld3
import Derived.OwnWalk
namespace Go.Proofs.YtdbflfakocaapaaDoor
open Go.RowKit
attribute [local go_sem ↓] Go.wp_at_zero Go.wp_at_succ

/-- New, Base, Term, one after the other, at the world W. -/
theorem gpre_of {w w1 w2 : World} {G n : Nat} {vd : Value} (hst : StreamR w1 w.heap.size n) (hb1 : Below w.heap.size w w1) (hs1 : w1.heap.size = w.heap.size + 1) (hd : DeclsIn w1.heap.size w2 vd) (hb2 : Below w1.heap.size w1 w2) (hN : EnvN 1 4 w G) (hG : G ≤ w.heap.size) : GPre w.heap.size n G vd w2 := by
  obtain ⟨g, hv, hl, hg, hds⟩ := hd
  exact ⟨hst.below hb2 (by omega), (hN.keep fun b hb => hb1.block b (by omega)).keep fun b hb => hb2.block b (by omega), hG, ⟨g, hv, by omega, hg, hds⟩⟩
theorem grown_below {w w' : World} {sb B : Nat} (h : w.grownBy w' (some sb)) (h1 : B ≤ sb) (h2 : B ≤ w.heap.size) : Below B w w' :=
  ⟨h.os, h.tape, h.output, h.size, fun k hk => h.block k (by omega) (by intro e; injection e with e; omega)⟩

set_option maxRecDepth 20000 in
set_option maxHeartbeats 4000000 in
theorem c_lawTermCompare (x0 x1 : List Int) (v0 v1 : Value) (cut : Int) (w : World) (G : Nat) (hv0 : IsInts w w.heap.size x0 v0) (hv1 : IsInts w w.heap.size x1 v1) (hx0 : ∀ x ∈ x0, inI x) (hx1 : ∀ x ∈ x1, inI x) (hn0 : x0.length ≤ 2 ^ 20) (hn1 : x1.length ≤ 2 ^ 20) (_ : inI cut) (hE : EnvR w G) (hN : EnvN 1 4 w G) (hG : G ≤ w.heap.size) :
    Calls Tryd.prog 8 #[v0, v1, .int .i64 cut] w fun e w' => e = .returned (.bool true) ∧ Below w.heap.size w w' := by
  have HV0 := Lib.hid hv0
  have HV1 := Lib.hid hv1
  have HX0 := Lib.hid hx0
  have HX1 := Lib.hid hx1
  have HE := Lib.hid hE
  have HN := Lib.hid hN
  obtain ⟨B0, d0, rfl, hd0, hm0, hnil0, hsp0, hr0⟩ := hv0
  obtain ⟨B1, d1, rfl, hd1, hm1, hnil1, hsp1, hr1⟩ := hv1
  have HR0 := Lib.hid hr0
  have HR1 := Lib.hid hr1
  have HM : Hid (d0 ≤ maxLen) := Lib.hid hm0
  clear hE hN hx0 hx1 hr0 hr1 hm0 hm1
  generalize hln0 : x0.length = m0 at *
  generalize hln1 : x1.length = m1 at *
  have HL0 := Lib.hid hln0
  have HL1 := Lib.hid hln1
  clear hln0 hln1
  go_enter Tryd.func8, Tryd.ntmps8
  go_wp2_with fail
  refine (c_NewR x0 _ w HV0.out HX0.out (by rw [HL0.out]; omega)).mono ?_
  rintro e w1 ⟨rfl, hst1, hb1, hs1⟩
  have HST1 := Lib.hid hst1
  clear hst1
  go_wp2_with fail
  refine (c_Base w1).mono ?_
  rintro e w2 ⟨vd, rfl, hd2, hb2⟩
  have HP := Lib.hid (gpre_of HST1.out hb1 hs1 hd2 hb2 HN.out hG)
  have hs2 := hb2.size
  clear hd2
  go_wp2_with fail
  refine (c_Term w2 w.heap.size _ G vd HP.out).mono ?_
  rintro e w3 ⟨T1, A1, c1, r3, rfl, hty1, hgd1, hr3, hst3, hg3⟩
  have hb3 : Below w.heap.size w w3 := (below_step hb1 (hb2.mono (by omega))).trans (grown_below hg3 (Nat.le_refl _) (by omega))
  have HTY1 := Lib.hid hty1
  have HSZ1 : Hid (T1.size ≤ 2 ^ 60) := Lib.hid (Nat.le_trans hgd1.size (by rw [HL0.out]; omega))
  clear hty1 hgd1 hst3 hg3 hr3 HST1 HP hb1 hb2 hs1 hs2
  go_wp2_with fail
  have hmod := Int.emod_nonneg cut (show ((m0 : Int) + 1) ≠ 0 by omega)
  have hmod2 := Int.emod_lt_of_pos cut (show 0 < ((m0 : Int) + 1) by omega)
  refine (c_Mod_q cut ((m0 : Int) + 1) _ (by omega) (by omega)).mono ?_
  obtain ⟨q, hq⟩ := Int.eq_ofNat_of_zero_le hmod
  rw [hq]
  rintro e wn ⟨rfl, rfl⟩
  have hq0 : (0 : Int) ≤ (q : Int) := by omega
  have hqm : (q : Int) ≤ (m0 : Int) := by omega
  have hqd : (q : Int) ≤ (d0 : Int) := by omega
  clear hmod hmod2 hq
  obtain ⟨i0, hi0, hz0, hz1, hz2⟩ := info_parts info_int
  have HI : Hid (i0.zero = some (.int .i64 0) ∧ i0.size = 1 ∧ i0.bytes = 8) := Lib.hid ⟨hz0, hz1, hz2⟩
  have Hi0 := Lib.hid hi0
  clear hi0 hz0 hz1 hz2
  have HT0 := Lib.hid (HR0.out.take_ (k := q) (by omega))
  have hs3 := hb3.size
  have HB2 : Hid (∀ W : World, W = (w3.alloc (.cells #[.int .i64 T1.kind, .string T1.name, .int .i64 T1.index, .slice A1 T1.args.length c1] 25)).alloc (.cells #[] 3) → Below w.heap.size w W ∧ Below w3.heap.size w3 W ∧ W.heap.size = w3.heap.size + 1 + 1 ∧ W.heap[w3.heap.size]? = some (.cells #[.int .i64 T1.kind, .string T1.name, .int .i64 T1.index, .slice A1 T1.args.length c1] 25 (0, 0)) ∧ W.heap[w3.heap.size + 1]? = some (.cells #[] 3 (0, 0))) := Lib.hid (fun W hW => by
    subst hW
    refine ⟨hb3.trans ((below_step (below_new w3 _) (below_new _ _)).mono hs3), below_step (below_new _ _) (below_new _ _), by simp, blk_old (blk_new _ _), ?_⟩
    have := blk_new (w3.alloc (.cells #[.int .i64 T1.kind, .string T1.name, .int .i64 T1.index, .slice A1 T1.args.length c1] 25)) (.cells #[] 3)
    simpa using this)
  rcases B0 with _ | ⟨bb, bo, bs⟩
  · obtain rfl : d0 = 0 := hnil0 rfl
    obtain rfl : m0 = 0 := by omega
    obtain rfl : q = 0 := by omega
    go_wp2_with (first
      | (at_builtin; refine wpList_append_rd _ rfl (.tmp 14) (.tmp 21) 22 rfl (w3.heap.size + 1) 3 i0 (.int .i64 0) 1 8 Tryd.underlying22 Hi0.out HI.out.1 HI.out.2.1 HI.out.2.2 rfl (by omega) (.slice (some ⟨w3.heap.size + 1, 0, none⟩) 0 0) 0 [] rfl (own_empty (HB2.out _ rfl).2.2.2.2 (Nat.le_refl _)) w.heap.size none 0 0 ((ints x0).take (0 * 1)) rfl ?ra1 ?ra2 ?ra3 ?ra4 ?ra5
         case ra1 => exact HT0.out.below (HB2.out _ rfl).1 (Nat.le_refl _)
         case ra2 => (rw [ints_take]; exact ints_one _)
         case ra3 => omega
         case ra4 => (have := (HB2.out _ rfl).2.2.1; omega)
         intro va wa howna hga hata
         have hbk := HB2.out _ rfl
         have hsa := hga.size
         have hbA : Below w.heap.size w wa := hbk.1.grown hga (by have := hbk.2.2.1; omega) (by simp [Value.ownBlock]; omega)
         have hbxa : wa.heap[w3.heap.size]? = some (.cells #[.int .i64 T1.kind, .string T1.name, .int .i64 T1.index, .slice A1 T1.args.length c1] 25 (0, 0)) := (hga.block _ (by have := hbk.2.2.1; omega) (by simp [Value.ownBlock])).trans hbk.2.2.2.1
         have HKA := Lib.hid (fun (b : Nat) (hb : b < w3.heap.size) => (hga.block b (by have := hbk.2.2.1; omega) (by simp [Value.ownBlock]; omega)).trans (hbk.2.1.block b hb))
         have HBXA := Lib.hid hbxa
         have hsza : w3.heap.size + 1 + 1 ≤ wa.heap.size := by have := hbk.2.2.1; omega
         clear hbk hbxa
         refine wpList_plain rfl (fun K hK => ?_)
         go_simp
         refine hK _ _ ?_
         refine wpList_append_rd _ rfl (.tmp 22) (.tmp 23) 22 rfl (w3.heap.size + 1) 3 i0 (.int .i64 0) 1 8 Tryd.underlying22 Hi0.out HI.out.1 HI.out.2.1 HI.out.2.2 rfl (by omega) va (0 + 0) ([] ++ (ints x0).take (0 * 1)) rfl howna w.heap.size B1 m1 d1 (ints x1) rfl ?ta1 ?ta2 ?ta3 ?ta4 ?ta5
         case ta1 => exact HR1.out.below hbA (Nat.le_refl _)
         case ta2 => exact ints_one _
         case ta3 => omega
         case ta4 => omega
         intro vb wb hownb hgb hatb
         have hogb := own_ge howna
         have hbB : Below w.heap.size w wb := hbA.grown hgb (by omega) (fun k hk => by have := hogb k hk; omega)
         have HBXB := Lib.hid ((hgb.block w3.heap.size (by omega) (fun e => by have := hogb _ e.symm; omega)).trans HBXA.out)
         have HKB := Lib.hid (fun (b : Nat) (hb : b < w3.heap.size) => (hgb.block b (by omega) (fun e => by have := hogb _ e.symm; omega)).trans (HKA.out b hb))
         have hszb : w3.heap.size + 1 + 1 ≤ wb.heap.size := Nat.le_trans hsza hgb.size
         have HOB : Hid (IsInts wb wb.heap.size (x0.take 0 ++ x1) vb) := Lib.hid (IsInts.own (by
           have e1 : (x0.take 0 ++ x1).length = 0 + 0 + m1 := by simp only [List.length_append, List.length_take, HL0.out, HL1.out]; omega
           have e2 : ints (x0.take 0 ++ x1) = [] ++ (ints x0).take (0 * 1) ++ ints x1 := by rw [ints_take]; simp [ints]
           rw [e1, e2]; exact hownb))
         have HLM : Hid ((x0.take 0 ++ x1).length ≤ 2 ^ 21) := Lib.hid (by simp only [List.length_append, List.length_take, HL0.out, HL1.out]; omega)
         have HXM : Hid (∀ x ∈ x0.take 0 ++ x1, inI x) := Lib.hid (fun x hx => by
           rcases List.mem_append.1 hx with h | h
           · exact HX0.out x (List.mem_of_mem_take h)
           · exact HX1.out x h)
         clear hgb hownb hatb))
    generalize x0.take 0 ++ x1 = xm at *
    refine (c_NewR xm vb wb HOB.out HXM.out (by have := HLM.out; omega)).mono ?_
    rintro e w5 ⟨rfl, hst5, hb5, hs5⟩
    have HST5 := Lib.hid hst5
    clear hst5
    go_wp2_with fail
    refine (c_Base w5).mono ?_
    rintro e w6 ⟨vd2, rfl, hd6, hb6⟩
    have hs6 := hb6.size
    have hle3 := hb3.size
    have HP2 := Lib.hid (gpre_of HST5.out hb5 hs5 hd6 hb6 (HN.out.keep fun b hb => hbB.block b (by omega)) (by omega))
    clear hd6
    go_wp2_with fail
    refine (c_Term w6 wb.heap.size _ G vd2 HP2.out).mono ?_
    rintro e w7 ⟨T2, A2, c2, r7, rfl, hty2, hgd2, hr7, hst7, hg7⟩
    have hb57 : Below wb.heap.size wb w7 := (below_step hb5 (hb6.mono (by omega))).trans (grown_below hg7 (Nat.le_refl _) (by omega))
    have hs7 := hb57.size
    have HTX1 := Lib.hid (HTY1.out.keep (w' := w7) (L' := w2.heap.size) (B' := w3.heap.size) (fun b h1 h2 => (hb57.block b (by omega)).trans (HKB.out b h2)) (Nat.le_refl _) (Nat.le_refl _))
    have HTX2 := Lib.hid hty2
    have HBX1 := Lib.hid ((hb57.block w3.heap.size (by omega)).trans HBXB.out)
    have hbw7 : Below w.heap.size w w7 := hbB.trans (hb57.mono hbB.size)
    have HSZ2 : Hid (T2.size ≤ 2 ^ 60) := Lib.hid (Nat.le_trans hgd2.size (by have := HLM.out; omega))
    clear hty2 hgd2 hst7 hg7 hr7 HST5 HP2 hb5 hb6 hs5 hs6 HBXB HKB HKA HBXA HOB HXM HLM hga hata howna HB2 HT0 HR0 HR1 HX0 HX1 HV0 HV1
    have HCK : Hid (∀ W : World, Below w7.heap.size w7 W → Calls Tryd.prog 14 #[] W fun e w' => e = .returned (.bool true) ∧ Below W.heap.size W w') := Lib.hid (fun W hW => c_check W G ((HE.out.below hbw7 hG).below hW (by have := hbw7.size; omega)) (by have := hW.size; have := hbw7.size; omega))
    have HCM : Hid (∀ W : World, Below w7.heap.size w7 W → Calls Tryd.prog 35 #[.agg #[.int .i64 T1.kind, .string T1.name, .int .i64 T1.index, .slice A1 T1.args.length c1], .agg #[.int .i64 T2.kind, .string T2.name, .int .i64 T2.index, .slice A2 T2.args.length c2]] W fun e w' => e = .returned (.int .i64 (T1.cmp T2)) ∧ Below W.heap.size W w') := Lib.hid (fun W hW => c_Compare T1.size T1 T2 W _ _ _ _ _ _ (Nat.le_refl _) (HTX1.out.below hW (by omega)) (HTX2.out.below hW (Nat.le_refl _)) (by have := hW.size; omega) hW.size HSZ1.out)
    have HTC : Hid (∀ W : World, Below w7.heap.size w7 W → Calls Tryd.prog 36 #[.agg #[.int .i64 T1.kind, .string T1.name, .int .i64 T1.index, .slice A1 T1.args.length c1], .agg #[.int .i64 T2.kind, .string T2.name, .int .i64 T2.index, .slice A2 T2.args.length c2]] W fun e w' => e = .returned (.int .i64 (T1.cmp T2)) ∧ Below W.heap.size W w') := Lib.hid (fun W hW => c_TermCompare T1.size T1 T2 W _ _ _ _ _ _ (Nat.le_refl _) (HTX1.out.below hW (by omega)) (HTX2.out.below hW (Nat.le_refl _)) (by have := hW.size; omega) hW.size HSZ1.out)
    have HEQ : Hid (∀ W : World, Below w7.heap.size w7 W → Calls Tryd.prog 37 #[.agg #[.int .i64 T1.kind, .string T1.name, .int .i64 T1.index, .slice A1 T1.args.length c1], .agg #[.int .i64 T2.kind, .string T2.name, .int .i64 T2.index, .slice A2 T2.args.length c2]] W fun e w' => e = .returned (.bool (T1.cmp T2 == 0)) ∧ Below W.heap.size W w') := Lib.hid (fun W hW => c_Equal T1 T2 W _ _ _ _ _ _ (HTX1.out.below hW (by omega)) (HTX2.out.below hW (Nat.le_refl _)) (by have := hW.size; omega) hW.size HSZ1.out)
    have HTE : Hid (∀ W : World, Below w7.heap.size w7 W → Calls Tryd.prog 39 #[.agg #[.int .i64 T1.kind, .string T1.name, .int .i64 T1.index, .slice A1 T1.args.length c1], .agg #[.int .i64 T2.kind, .string T2.name, .int .i64 T2.index, .slice A2 T2.args.length c2]] W fun e w' => e = .returned (.bool (T1.cmp T2 == 0)) ∧ Below W.heap.size W w') := Lib.hid (fun W hW => c_TermEqual T1 T2 W _ _ _ _ _ _ (HTX1.out.below hW (by omega)) (HTX2.out.below hW (Nat.le_refl _)) (by have := hW.size; omega) hW.size HSZ1.out)
    have HW : Hid (∀ W : World, W = w7.alloc (.cells #[.int .i64 T2.kind, .string T2.name, .int .i64 T2.index, .slice A2 T2.args.length c2] 25) → W.heap[w3.heap.size]? = some (.cells #[.int .i64 T1.kind, .string T1.name, .int .i64 T1.index, .slice A1 T1.args.length c1] 25 (0, 0)) ∧ W.heap[w7.heap.size]? = some (.cells #[.int .i64 T2.kind, .string T2.name, .int .i64 T2.index, .slice A2 T2.args.length c2] 25 (0, 0)) ∧ Below w7.heap.size w7 W ∧ w7.heap.size < W.heap.size) := Lib.hid (fun W hW => by
      subst hW
      exact ⟨blk_old HBX1.out, blk_new _ _, below_new _ _, by simp⟩)
    clear HTX1 HTX2 HBX1 HSZ1 HSZ2
    generalize T1.cmp T2 = x at *
    generalize T1.kind = k1, T1.name = n1, T1.index = i1, T1.args.length = l1, T2.kind = k2, T2.name = n2, T2.index = i2, T2.args.length = l2 at *
    go_wp2
    generalize hWW : w7.alloc _ = W8
    obtain ⟨hbk1, hbk2, hb8, hlt8⟩ := HW.out W8 hWW.symm
    have SK := Lib.hid (box_sk2 (box_frozen hbk1).1 (box_frozen hbk2).1 (by omega) hlt8)
    clear hWW HW hbk1 hbk2
    go_region_held3 (fun W' : World => Below W8.heap.size W8 W' ∧ (W'.cell? ⟨w3.heap.size, 0, none⟩ = some (.int .i64 k1) ∧ W'.cell? ⟨w3.heap.size, 1, none⟩ = some (.string n1) ∧ W'.cell? ⟨w3.heap.size, 2, none⟩ = some (.int .i64 i1) ∧ W'.cell? ⟨w3.heap.size, 3, none⟩ = some (.slice A1 l1 c1)) ∧ (W'.cell? ⟨w7.heap.size, 0, none⟩ = some (.int .i64 k2) ∧ W'.cell? ⟨w7.heap.size, 1, none⟩ = some (.string n2) ∧ W'.cell? ⟨w7.heap.size, 2, none⟩ = some (.int .i64 i2) ∧ W'.cell? ⟨w7.heap.size, 3, none⟩ = some (.slice A2 l2 c2)))
      (first | exact SK.out _ (below_drew _) | exact SK.out _ (below_step (And.left (by assumption)) hbn))
      (first
      | (go_at_call 14; refine (HCK.out _ ?hbela).mono ?_; (case hbela => exact below_step hb8 (And.left (by assumption))); rintro e wn ⟨rfl, hbn⟩)
      | (go_at_call 35; refine (HCM.out _ ?hbela).mono ?_; (case hbela => exact below_step hb8 (And.left (by assumption))); rintro e wn ⟨rfl, hbn⟩)
      | (go_at_call 36; refine (HTC.out _ ?hbela).mono ?_; (case hbela => exact below_step hb8 (And.left (by assumption))); rintro e wn ⟨rfl, hbn⟩)
      | (go_at_call 37; refine (HEQ.out _ ?hbela).mono ?_; (case hbela => exact below_step hb8 (And.left (by assumption))); rintro e wn ⟨rfl, hbn⟩)
      | (go_at_call 39; refine (HTE.out _ ?hbela).mono ?_; (case hbela => exact below_step hb8 (And.left (by assumption))); rintro e wl ⟨rfl, hbn⟩))
    have hbl : Below W8.heap.size W8 wl := And.left (by assumption)
    go_wp2
    go_ret
    exact ⟨rfl, hbw7.trans ((below_step hb8 hbl).mono hbw7.size)⟩
  · obtain rfl : bs = none := hsp0 _ rfl
    go_wp2_with (first
      | (at_builtin; refine wpList_append_rd _ rfl (.tmp 14) (.tmp 21) 22 rfl (w3.heap.size + 1) 3 i0 (.int .i64 0) 1 8 Tryd.underlying22 Hi0.out HI.out.1 HI.out.2.1 HI.out.2.2 rfl (by omega) (.slice (some ⟨w3.heap.size + 1, 0, none⟩) 0 0) 0 [] rfl (own_empty (HB2.out _ rfl).2.2.2.2 (Nat.le_refl _)) w.heap.size (some ⟨bb, bo, none⟩) q d0 ((ints x0).take (q * 1)) rfl ?rb1 ?rb2 ?rb3 ?rb4 ?rb5
         case rb1 => exact HT0.out.below (HB2.out _ rfl).1 (Nat.le_refl _)
         case rb2 => (rw [ints_take]; exact ints_one _)
         case rb3 => omega
         case rb4 => (have := (HB2.out _ rfl).2.2.1; omega)
         intro va wa howna hga hata
         have hbk := HB2.out _ rfl
         have hsa := hga.size
         have hbA : Below w.heap.size w wa := hbk.1.grown hga (by have := hbk.2.2.1; omega) (by simp [Value.ownBlock]; omega)
         have hbxa : wa.heap[w3.heap.size]? = some (.cells #[.int .i64 T1.kind, .string T1.name, .int .i64 T1.index, .slice A1 T1.args.length c1] 25 (0, 0)) := (hga.block _ (by have := hbk.2.2.1; omega) (by simp [Value.ownBlock])).trans hbk.2.2.2.1
         have HKA := Lib.hid (fun (b : Nat) (hb : b < w3.heap.size) => (hga.block b (by have := hbk.2.2.1; omega) (by simp [Value.ownBlock]; omega)).trans (hbk.2.1.block b hb))
         have HBXA := Lib.hid hbxa
         have hsza : w3.heap.size + 1 + 1 ≤ wa.heap.size := by have := hbk.2.2.1; omega
         clear hbk hbxa
         refine wpList_plain rfl (fun K hK => ?_)
         go_simp
         refine hK _ _ ?_
         refine wpList_append_rd _ rfl (.tmp 22) (.tmp 23) 22 rfl (w3.heap.size + 1) 3 i0 (.int .i64 0) 1 8 Tryd.underlying22 Hi0.out HI.out.1 HI.out.2.1 HI.out.2.2 rfl (by omega) va (0 + q) ([] ++ (ints x0).take (q * 1)) rfl howna w.heap.size B1 m1 d1 (ints x1) rfl ?tb1 ?tb2 ?tb3 ?tb4 ?tb5
         case tb1 => exact HR1.out.below hbA (Nat.le_refl _)
         case tb2 => exact ints_one _
         case tb3 => omega
         case tb4 => omega
         intro vb wb hownb hgb hatb
         have hogb := own_ge howna
         have hbB : Below w.heap.size w wb := hbA.grown hgb (by omega) (fun k hk => by have := hogb k hk; omega)
         have HBXB := Lib.hid ((hgb.block w3.heap.size (by omega) (fun e => by have := hogb _ e.symm; omega)).trans HBXA.out)
         have HKB := Lib.hid (fun (b : Nat) (hb : b < w3.heap.size) => (hgb.block b (by omega) (fun e => by have := hogb _ e.symm; omega)).trans (HKA.out b hb))
         have hszb : w3.heap.size + 1 + 1 ≤ wb.heap.size := Nat.le_trans hsza hgb.size
         have HOB : Hid (IsInts wb wb.heap.size (x0.take q ++ x1) vb) := Lib.hid (IsInts.own (by
           have e1 : (x0.take q ++ x1).length = 0 + q + m1 := by simp only [List.length_append, List.length_take, HL0.out, HL1.out]; omega
           have e2 : ints (x0.take q ++ x1) = [] ++ (ints x0).take (q * 1) ++ ints x1 := by rw [ints_take]; simp [ints]
           rw [e1, e2]; exact hownb))
         have HLM : Hid ((x0.take q ++ x1).length ≤ 2 ^ 21) := Lib.hid (by simp only [List.length_append, List.length_take, HL0.out, HL1.out]; omega)
         have HXM : Hid (∀ x ∈ x0.take q ++ x1, inI x) := Lib.hid (fun x hx => by
           rcases List.mem_append.1 hx with h | h
           · exact HX0.out x (List.mem_of_mem_take h)
           · exact HX1.out x h)
         clear hgb hownb hatb))
    generalize x0.take q ++ x1 = xm at *
    refine (c_NewR xm vb wb HOB.out HXM.out (by have := HLM.out; omega)).mono ?_
    rintro e w5 ⟨rfl, hst5, hb5, hs5⟩
    have HST5 := Lib.hid hst5
    clear hst5
    go_wp2_with fail
    refine (c_Base w5).mono ?_
    rintro e w6 ⟨vd2, rfl, hd6, hb6⟩
    have hs6 := hb6.size
    have hle3 := hb3.size
    have HP2 := Lib.hid (gpre_of HST5.out hb5 hs5 hd6 hb6 (HN.out.keep fun b hb => hbB.block b (by omega)) (by omega))
    clear hd6
    go_wp2_with fail
    refine (c_Term w6 wb.heap.size _ G vd2 HP2.out).mono ?_
    rintro e w7 ⟨T2, A2, c2, r7, rfl, hty2, hgd2, hr7, hst7, hg7⟩
    have hb57 : Below wb.heap.size wb w7 := (below_step hb5 (hb6.mono (by omega))).trans (grown_below hg7 (Nat.le_refl _) (by omega))
    have hs7 := hb57.size
    have HTX1 := Lib.hid (HTY1.out.keep (w' := w7) (L' := w2.heap.size) (B' := w3.heap.size) (fun b h1 h2 => (hb57.block b (by omega)).trans (HKB.out b h2)) (Nat.le_refl _) (Nat.le_refl _))
    have HTX2 := Lib.hid hty2
    have HBX1 := Lib.hid ((hb57.block w3.heap.size (by omega)).trans HBXB.out)
    have hbw7 : Below w.heap.size w w7 := hbB.trans (hb57.mono hbB.size)
    have HSZ2 : Hid (T2.size ≤ 2 ^ 60) := Lib.hid (Nat.le_trans hgd2.size (by have := HLM.out; omega))
    clear hty2 hgd2 hst7 hg7 hr7 HST5 HP2 hb5 hb6 hs5 hs6 HBXB HKB HKA HBXA HOB HXM HLM hga hata howna HB2 HT0 HR0 HR1 HX0 HX1 HV0 HV1
    have HCK : Hid (∀ W : World, Below w7.heap.size w7 W → Calls Tryd.prog 14 #[] W fun e w' => e = .returned (.bool true) ∧ Below W.heap.size W w') := Lib.hid (fun W hW => c_check W G ((HE.out.below hbw7 hG).below hW (by have := hbw7.size; omega)) (by have := hW.size; have := hbw7.size; omega))
    have HCM : Hid (∀ W : World, Below w7.heap.size w7 W → Calls Tryd.prog 35 #[.agg #[.int .i64 T1.kind, .string T1.name, .int .i64 T1.index, .slice A1 T1.args.length c1], .agg #[.int .i64 T2.kind, .string T2.name, .int .i64 T2.index, .slice A2 T2.args.length c2]] W fun e w' => e = .returned (.int .i64 (T1.cmp T2)) ∧ Below W.heap.size W w') := Lib.hid (fun W hW => c_Compare T1.size T1 T2 W _ _ _ _ _ _ (Nat.le_refl _) (HTX1.out.below hW (by omega)) (HTX2.out.below hW (Nat.le_refl _)) (by have := hW.size; omega) hW.size HSZ1.out)
    have HTC : Hid (∀ W : World, Below w7.heap.size w7 W → Calls Tryd.prog 36 #[.agg #[.int .i64 T1.kind, .string T1.name, .int .i64 T1.index, .slice A1 T1.args.length c1], .agg #[.int .i64 T2.kind, .string T2.name, .int .i64 T2.index, .slice A2 T2.args.length c2]] W fun e w' => e = .returned (.int .i64 (T1.cmp T2)) ∧ Below W.heap.size W w') := Lib.hid (fun W hW => c_TermCompare T1.size T1 T2 W _ _ _ _ _ _ (Nat.le_refl _) (HTX1.out.below hW (by omega)) (HTX2.out.below hW (Nat.le_refl _)) (by have := hW.size; omega) hW.size HSZ1.out)
    have HEQ : Hid (∀ W : World, Below w7.heap.size w7 W → Calls Tryd.prog 37 #[.agg #[.int .i64 T1.kind, .string T1.name, .int .i64 T1.index, .slice A1 T1.args.length c1], .agg #[.int .i64 T2.kind, .string T2.name, .int .i64 T2.index, .slice A2 T2.args.length c2]] W fun e w' => e = .returned (.bool (T1.cmp T2 == 0)) ∧ Below W.heap.size W w') := Lib.hid (fun W hW => c_Equal T1 T2 W _ _ _ _ _ _ (HTX1.out.below hW (by omega)) (HTX2.out.below hW (Nat.le_refl _)) (by have := hW.size; omega) hW.size HSZ1.out)
    have HTE : Hid (∀ W : World, Below w7.heap.size w7 W → Calls Tryd.prog 39 #[.agg #[.int .i64 T1.kind, .string T1.name, .int .i64 T1.index, .slice A1 T1.args.length c1], .agg #[.int .i64 T2.kind, .string T2.name, .int .i64 T2.index, .slice A2 T2.args.length c2]] W fun e w' => e = .returned (.bool (T1.cmp T2 == 0)) ∧ Below W.heap.size W w') := Lib.hid (fun W hW => c_TermEqual T1 T2 W _ _ _ _ _ _ (HTX1.out.below hW (by omega)) (HTX2.out.below hW (Nat.le_refl _)) (by have := hW.size; omega) hW.size HSZ1.out)
    have HW : Hid (∀ W : World, W = w7.alloc (.cells #[.int .i64 T2.kind, .string T2.name, .int .i64 T2.index, .slice A2 T2.args.length c2] 25) → W.heap[w3.heap.size]? = some (.cells #[.int .i64 T1.kind, .string T1.name, .int .i64 T1.index, .slice A1 T1.args.length c1] 25 (0, 0)) ∧ W.heap[w7.heap.size]? = some (.cells #[.int .i64 T2.kind, .string T2.name, .int .i64 T2.index, .slice A2 T2.args.length c2] 25 (0, 0)) ∧ Below w7.heap.size w7 W ∧ w7.heap.size < W.heap.size) := Lib.hid (fun W hW => by
      subst hW
      exact ⟨blk_old HBX1.out, blk_new _ _, below_new _ _, by simp⟩)
    clear HTX1 HTX2 HBX1 HSZ1 HSZ2
    generalize T1.cmp T2 = x at *
    generalize T1.kind = k1, T1.name = n1, T1.index = i1, T1.args.length = l1, T2.kind = k2, T2.name = n2, T2.index = i2, T2.args.length = l2 at *
    go_wp2
    generalize hWW : w7.alloc _ = W8
    obtain ⟨hbk1, hbk2, hb8, hlt8⟩ := HW.out W8 hWW.symm
    have SK := Lib.hid (box_sk2 (box_frozen hbk1).1 (box_frozen hbk2).1 (by omega) hlt8)
    clear hWW HW hbk1 hbk2
    go_region_held3 (fun W' : World => Below W8.heap.size W8 W' ∧ (W'.cell? ⟨w3.heap.size, 0, none⟩ = some (.int .i64 k1) ∧ W'.cell? ⟨w3.heap.size, 1, none⟩ = some (.string n1) ∧ W'.cell? ⟨w3.heap.size, 2, none⟩ = some (.int .i64 i1) ∧ W'.cell? ⟨w3.heap.size, 3, none⟩ = some (.slice A1 l1 c1)) ∧ (W'.cell? ⟨w7.heap.size, 0, none⟩ = some (.int .i64 k2) ∧ W'.cell? ⟨w7.heap.size, 1, none⟩ = some (.string n2) ∧ W'.cell? ⟨w7.heap.size, 2, none⟩ = some (.int .i64 i2) ∧ W'.cell? ⟨w7.heap.size, 3, none⟩ = some (.slice A2 l2 c2)))
      (first | exact SK.out _ (below_drew _) | exact SK.out _ (below_step (And.left (by assumption)) hbn))
      (first
      | (go_at_call 14; refine (HCK.out _ ?hbelb).mono ?_; (case hbelb => exact below_step hb8 (And.left (by assumption))); rintro e wn ⟨rfl, hbn⟩)
      | (go_at_call 35; refine (HCM.out _ ?hbelb).mono ?_; (case hbelb => exact below_step hb8 (And.left (by assumption))); rintro e wn ⟨rfl, hbn⟩)
      | (go_at_call 36; refine (HTC.out _ ?hbelb).mono ?_; (case hbelb => exact below_step hb8 (And.left (by assumption))); rintro e wn ⟨rfl, hbn⟩)
      | (go_at_call 37; refine (HEQ.out _ ?hbelb).mono ?_; (case hbelb => exact below_step hb8 (And.left (by assumption))); rintro e wn ⟨rfl, hbn⟩)
      | (go_at_call 39; refine (HTE.out _ ?hbelb).mono ?_; (case hbelb => exact below_step hb8 (And.left (by assumption))); rintro e wl ⟨rfl, hbn⟩))
    have hbl : Below W8.heap.size W8 wl := And.left (by assumption)
    go_wp2
    go_ret
    exact ⟨rfl, hbw7.trans ((below_step hb8 hbl).mono hbw7.size)⟩
end Go.Proofs.YtdbflfakocaapaaDoor
