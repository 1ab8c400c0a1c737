/- The walk of tellaw2.TermSpoiled: it returns true. -/
import Derived.Test.YtdbflfakocaapaaDoorGen
import Derived.Test.YtdbflfakocaapaaDoorSpoil
import Derived.Test.YtdbflfakocaapaaDoorValid2
import Derived.Test.YtdbflfakocaapaaDoorCons
import Derived.Test.YtdbflfakocaapaaDoorHeld
import Derived.Deep.RegionHeld3
import Derived.Deep.DeepCutAuto
namespace Go.Proofs.YtdbflfakocaapaaDoor
open Go.RowKit
attribute [local go_sem ↓] Go.wp_at_zero Go.wp_at_succ

theorem gpre_of' {w w1 w2 : World} {G n : Nat} {vd : Value} (hst : StreamR w1 w.heap.size n) (hb1 : Below w.heap.size w w1) (hs1 : w1.heap.size = w.heap.size + 1) (hd : DeclsIn w1.heap.size w2 vd) (hb2 : Below w1.heap.size w1 w2) (hN : EnvN 1 4 w G) (hG : G ≤ w.heap.size) : GPre w.heap.size n G vd w2 := by
  obtain ⟨g, hv, hl, hg, hds⟩ := hd
  exact ⟨hst.below hb2 (by omega), (hN.keep fun b hb => hb1.block b (by omega)).keep fun b hb => hb2.block b (by omega), hG, ⟨g, hv, by omega, hg, hds⟩⟩
theorem grown_below' {w w' : World} {sb B : Nat} (h : w.grownBy w' (some sb)) (h1 : B ≤ sb) (h2 : B ≤ w.heap.size) : Below B w w' :=
  ⟨h.os, h.tape, h.output, h.size, fun k hk => h.block k (by omega) (by intro e; injection e with e; omega)⟩
theorem lt_alloc (w : World) (o : Obj) : w.heap.size < (w.alloc o).heap.size := by simp
theorem lt_of_block {w : World} {b : Nat} {o : Obj} (h : w.heap[b]? = some o) : b < w.heap.size := (Array.getElem?_eq_some_iff.1 h).1
/-- What the statement 'x := spoil(..)' leaves: the variable's box and the term in it. -/
def SpCut (w3 : World) (k1 : Int) (n1 : ByteArray) (i1 : Int) (v1 s : Value) (wx : World) : Prop := ∃ (g : Nat) (X : Ty) (AX : Option Addr) (cX : Nat), s = .pointer (some ⟨g, 0, none⟩) ∧ Below w3.heap.size w3 wx ∧ w3.heap.size < wx.heap.size ∧ g < wx.heap.size ∧ (wx.cell? ⟨w3.heap.size, 0, none⟩ = some (.int .i64 k1) ∧ wx.cell? ⟨w3.heap.size, 1, none⟩ = some (.string n1) ∧ wx.cell? ⟨w3.heap.size, 2, none⟩ = some (.int .i64 i1) ∧ wx.cell? ⟨w3.heap.size, 3, none⟩ = some (v1)) ∧ (wx.cell? ⟨g, 0, none⟩ = some (.int .i64 X.kind) ∧ wx.cell? ⟨g, 1, none⟩ = some (.string X.name) ∧ wx.cell? ⟨g, 2, none⟩ = some (.int .i64 X.index) ∧ wx.cell? ⟨g, 3, none⟩ = some (.slice AX X.args.length cX)) ∧ IsTy wx 0 wx.heap.size X (.agg #[.int .i64 X.kind, .string X.name, .int .i64 X.index, .slice AX X.args.length cX]) ∧ X.ok ∧ X.size ≤ 2 ^ 52
theorem sp_cut_new {w3 W wp : World} {k1 i1 : Int} {n1 : ByteArray} {v1 : Value} {lo : Nat} {X : Ty} {AX : Option Addr} {cX : Nat} (hbW : Below w3.heap.size w3 W) (hlt : w3.heap.size < W.heap.size) (hbx : W.cell? ⟨w3.heap.size, 0, none⟩ = some (.int .i64 k1) ∧ W.cell? ⟨w3.heap.size, 1, none⟩ = some (.string n1) ∧ W.cell? ⟨w3.heap.size, 2, none⟩ = some (.int .i64 i1) ∧ W.cell? ⟨w3.heap.size, 3, none⟩ = some (v1)) (hbp : Below W.heap.size W wp) (hX : IsTyP wp (fun b => b < w3.heap.size ∨ (lo ≤ b ∧ b < wp.heap.size)) X (.agg #[.int .i64 X.kind, .string X.name, .int .i64 X.index, .slice AX X.args.length cX]) ∧ X.ok ∧ X.size ≤ 2 ^ 52) :
    SpCut w3 k1 n1 i1 v1 (.pointer (some ⟨wp.heap.size, 0, none⟩)) (wp.alloc (.cells #[.int .i64 X.kind, .string X.name, .int .i64 X.index, .slice AX X.args.length cX] 25)) := by
  have h1 := below_step hbp (below_new wp (.cells #[.int .i64 X.kind, .string X.name, .int .i64 X.index, .slice AX X.args.length cX] 25))
  have h2 := hbp.size
  have h3 := h1.size
  refine ⟨_, X, AX, cX, rfl, below_step hbW h1, by omega, by simp, (box_sk hbx.1 hbx.2.1 hbx.2.2.1 hbx.2.2.2 hlt _ h1).2, box_alloc _ _ _ _ _ _, (IsTyP.below (C := wp.heap.size) hX.1 (below_new _ _) (fun b hb => by omega)).ty (fun b hb => by simp; omega), hX.2⟩
theorem sp_cut_set {w3 W wp : World} {k1 i1 : Int} {n1 : ByteArray} {v1 : Value} {lo g : Nat} {X : Ty} {AX : Option Addr} {cX : Nat} {x0 x1 x2 x3 : Value} (hbW : Below w3.heap.size w3 W) (hlt : w3.heap.size < W.heap.size) (hbx : W.cell? ⟨w3.heap.size, 0, none⟩ = some (.int .i64 k1) ∧ W.cell? ⟨w3.heap.size, 1, none⟩ = some (.string n1) ∧ W.cell? ⟨w3.heap.size, 2, none⟩ = some (.int .i64 i1) ∧ W.cell? ⟨w3.heap.size, 3, none⟩ = some (v1)) (hbp : Below W.heap.size W wp) (hX : IsTyP wp (fun b => b < w3.heap.size ∨ (lo ≤ b ∧ b < wp.heap.size)) X (.agg #[.int .i64 X.kind, .string X.name, .int .i64 X.index, .slice AX X.args.length cX]) ∧ X.ok ∧ X.size ≤ 2 ^ 52) (hg : W.heap.size ≤ g) (hgl : g < lo) (hgb : wp.heap[g]? = some (.cells #[x0, x1, x2, x3] 25 (0, 0))) :
    SpCut w3 k1 n1 i1 v1 (.pointer (some ⟨g, 0, none⟩)) ((((wp.setCell ⟨g, 0, none⟩ (.int .i64 X.kind)).setCell ⟨g, 1, none⟩ (.string X.name)).setCell ⟨g, 2, none⟩ (.int .i64 X.index)).setCell ⟨g, 3, none⟩ (.slice AX X.args.length cX)) := by
  obtain ⟨s1, s2, s3⟩ := set4 (.int .i64 X.kind) (.string X.name) (.int .i64 X.index) (.slice AX X.args.length cX) hgb
  have h1 : Below W.heap.size W ((((wp.setCell ⟨g, 0, none⟩ (.int .i64 X.kind)).setCell ⟨g, 1, none⟩ (.string X.name)).setCell ⟨g, 2, none⟩ (.int .i64 X.index)).setCell ⟨g, 3, none⟩ (.slice AX X.args.length cX)) := ⟨hbp.os, hbp.tape, hbp.output, by rw [s3]; exact hbp.size, fun k hk => (s2 k (by omega)).trans (hbp.block k hk)⟩
  have h2 := hbp.size
  have hgl' := lt_of_block hgb
  refine ⟨_, X, AX, cX, rfl, below_step hbW h1, by omega, by omega, (box_sk hbx.1 hbx.2.1 hbx.2.2.1 hbx.2.2.2 hlt _ h1).2, (box_frozen s1).1, (IsTyP.keep (P' := fun b => b < wp.heap.size) (fun b hb => s2 b (by omega)) (fun b hb => by omega) hX.1).ty (fun b hb => by omega), hX.2⟩
theorem below_setB {base W : World} {b i : Nat} {u : Value} (h : Below base.heap.size base W) (hb : base.heap.size ≤ b) : Below base.heap.size base (W.setCell ⟨b, i, none⟩ u) := below_set h hb

set_option maxRecDepth 20000 in
set_option maxHeartbeats 4000000 in
theorem c_lawTermSpoiled (x0 : List Int) (v0 : Value) (at_ how n : Int) (name : ByteArray) (w : World) (G : Nat) (hv0 : IsInts w w.heap.size x0 v0) (hx0 : ∀ x ∈ x0, inI x) (hn0 : x0.length ≤ 2 ^ 47) (_ : inI at_) (_ : inI how) (hn : inI n) (hE : EnvR w G) (hN : EnvN 1 4 w G) (hG : G ≤ w.heap.size) :
    Calls Tryd.prog 4 #[v0, .int .i64 at_, .int .i64 how, .int .i64 n, .string name] w fun e w' => e = .returned (.bool true) ∧ Below w.heap.size w w' := by
  have HV0 := Lib.hid hv0
  have HX0 := Lib.hid hx0
  have HE := Lib.hid hE
  have HN := Lib.hid hN
  have HNI := Lib.hid hn
  obtain ⟨B0, d0, rfl, _⟩ := hv0
  clear hE hN hx0 hn
  generalize hln0 : x0.length = m0 at *
  have HL0 := Lib.hid hln0
  clear hln0
  go_enter Tryd.func4, Tryd.ntmps4
  go_wp2_with fail
  refine (c_NewR x0 _ w HV0.out HX0.out (by rw [HL0.out]; omega)).mono ?_
  rintro e w1 ⟨rfl, hst1, hb1, hs1⟩
  have HST1 := Lib.hid hst1
  clear hst1
  go_wp2_with fail
  refine (c_Base w1).mono ?_
  rintro e w2 ⟨vd, rfl, hd2, hb2⟩
  have HP := Lib.hid (gpre_of' HST1.out hb1 hs1 hd2 hb2 HN.out hG)
  have hs2 := hb2.size
  clear hd2
  go_wp2_with fail
  refine (c_OpenTerm 2 (by omega) (by omega) w2 w.heap.size _ G vd HP.out).mono ?_
  rintro e w3 ⟨T1, A1, c1, r3, rfl, hty1, hgd1, hr3, hst3, hg3⟩
  have hb3 : Below w.heap.size w w3 := (below_step hb1 (hb2.mono (by omega))).trans (grown_below' hg3 (Nat.le_refl _) (by omega))
  have hs3 := hb3.size
  have HTY1 := Lib.hid hty1
  have HGD := Lib.hid hgd1
  have hsz1 : T1.size ≤ 2 ^ 50 := Nat.le_trans hgd1.size (by rw [HL0.out]; omega)
  have hpos := T1.size_pos
  have HTS : Hid (∀ W : World, Below w3.heap.size w3 W → Calls Tryd.prog 21 #[.agg #[.int .i64 T1.kind, .string T1.name, .int .i64 T1.index, .slice A1 T1.args.length c1]] W fun e w' => e = .returned (.int .i64 T1.size) ∧ Below W.heap.size W w') := Lib.hid (fun W hW => c_TermSize2 T1.size T1 W _ _ _ (Nat.le_refl _) (HTY1.out.below hW (Nat.le_refl _)) hW.size (by omega))
  have HMD := Lib.hid (fun (W : World) => c_Mod2 at_ T1.size W (by omega) (by omega))
  have hm0 := Int.emod_nonneg at_ (show (T1.size : Int) ≠ 0 by omega)
  have hm1 := Int.emod_lt_of_pos at_ (show 0 < (T1.size : Int) by omega)
  have HSP : Hid (∀ W : World, Below w3.heap.size w3 W → Calls Tryd.prog 19 #[.agg #[.int .i64 T1.kind, .string T1.name, .int .i64 T1.index, .slice A1 T1.args.length c1], .int .i64 (at_ % T1.size), .int .i64 how, .int .i64 n, .string name] W fun e w' => ∃ x A c, e = .returned (.agg #[.int .i64 x.kind, .string x.name, .int .i64 x.index, .slice A x.args.length c]) ∧ Hid (IsTyP w' (fun b => b < w3.heap.size ∨ (W.heap.size ≤ b ∧ b < w'.heap.size)) x (.agg #[.int .i64 x.kind, .string x.name, .int .i64 x.index, .slice A x.args.length c]) ∧ x.ok ∧ x.size ≤ 2 ^ 52) ∧ Below W.heap.size W w') := Lib.hid (fun W hW =>
    (c_spoil how n name HNI.out T1.size T1 _ _ W _ (Nat.le_refl _) hm0 (by omega) (HTY1.out.below hW (Nat.le_refl _)).p (fun b hb => Nat.lt_of_lt_of_le hb.2 hW.size) HGD.out.ok HGD.out.nar (by omega)).mono fun e w' ⟨x, A, c, h1, h2, h3, h4, h5⟩ => ⟨x, A, c, h1, Lib.hid ⟨h2.keep (fun _ _ => rfl) (fun b hb => hb.imp (fun h => h.2) id), h3, by omega⟩, h5⟩)
  generalize hme : at_ % (T1.size : Int) = me at *
  have HCK : Hid (∀ W : World, Below w3.heap.size w3 W → Calls Tryd.prog 14 #[] W fun e w' => e = .returned (.bool true) ∧ Below W.heap.size W w') := Lib.hid (fun W hW => c_check W G ((HE.out.below hb3 hG).below hW (by omega)) (by have := hW.size; omega))
  have HV1 : Hid (∀ W : World, Below w3.heap.size w3 W → Calls Tryd.prog 15 #[.agg #[.int .i64 T1.kind, .string T1.name, .int .i64 T1.index, .slice A1 T1.args.length c1]] W fun e w' => e = .returned (.int .i64 T1.validate) ∧ Below W.heap.size W w') := Lib.hid (fun W hW => c_Validate2 T1 W _ _ G _ (HTY1.out.below hW (Nat.le_refl _)) hW.size HGD.out.ok (by omega) ((HE.out.below hb3 hG).below hW (by omega)) (by have := hW.size; omega))
  have HR1 : Hid (∀ W : World, Below w3.heap.size w3 W → Calls Tryd.prog 16 #[.agg #[.int .i64 T1.kind, .string T1.name, .int .i64 T1.index, .slice A1 T1.args.length c1]] W fun e w' => e = .returned (.int .i64 T1.validate) ∧ Below W.heap.size W w') := Lib.hid (fun W hW => c_TermValidate2 T1 W _ _ _ (HTY1.out.below hW (Nat.le_refl _)) hW.size HGD.out.ok (by omega))
  clear hty1 hgd1 hst3 hg3 hr3 HST1 HP hb1 hb2 hs1 hme
  have HW : Hid (∀ W : World, W = w3.alloc (.cells #[.int .i64 T1.kind, .string T1.name, .int .i64 T1.index, .slice A1 T1.args.length c1] 25) → (W.cell? ⟨w3.heap.size, 0, none⟩ = some (.int .i64 T1.kind) ∧ W.cell? ⟨w3.heap.size, 1, none⟩ = some (.string T1.name) ∧ W.cell? ⟨w3.heap.size, 2, none⟩ = some (.int .i64 T1.index) ∧ W.cell? ⟨w3.heap.size, 3, none⟩ = some (.slice A1 T1.args.length c1)) ∧ Below w3.heap.size w3 W ∧ w3.heap.size < W.heap.size) := Lib.hid (fun W hW => by
    subst hW
    exact ⟨box_alloc _ _ _ _ _ _, below_new _ _, by simp⟩)
  clear HTY1 HGD
  generalize T1.validate = vl, T1.size = sz at *
  generalize T1.kind = k1, T1.name = n1, T1.index = i1, T1.args.length = l1 at *
  go_wp2
  generalize hWW : w3.alloc _ = W
  obtain ⟨⟨b0, b1, b2, b3⟩, hbW, hltW⟩ := HW.out W hWW.symm
  have SK := Lib.hid (box_sk b0 b1 b2 b3 hltW)
  clear hWW HW
  go_cut [12] (fun s12 wx => SpCut w3 k1 n1 i1 (.slice A1 l1 c1) s12 wx)
  case first =>
    go_region_law (first
      | (go_simp; go_at_call 21; refine (HTS.out _ ?hbel).mono ?_; (case hbel => exact below_step hbW (by go_grown)); rintro e wn ⟨rfl, hbn⟩; have hsn := hbn.size; have HBN := Lib.hid (below_step (wr := W) (by go_grown) hbn); obtain ⟨_, y0, y1, y2, y3⟩ := SK.out _ HBN.out; have hsn2 : W.heap.size ≤ wn.heap.size := HBN.out.size; have hsn3 : w3.heap.size < wn.heap.size := Nat.lt_of_lt_of_le hltW hsn2; (try have HBX := Lib.hid ((hbn.block W.heap.size (lt_alloc W _)).trans (blk_new W _))))
      | (go_simp; go_at_call 20; refine (HMD.out _).mono ?_; rintro e wn ⟨rfl, rfl⟩)
      | (go_simp; go_at_call 19; refine (HSP.out _ ?hbel2).mono ?_; (case hbel2 => exact below_step hbW (HBN.out.trans (Below.mono (by go_grown : Below wn.heap.size wn _) hsn2))); rintro e wp ⟨X, AX, cX, rfl, hX, hbp⟩; have hsp := hbp.size; have HBP := Lib.hid (HBN.out.trans (Below.mono (below_step (by go_grown : Below wn.heap.size wn _) hbp) hsn2)); (try (have hbx := (hbp.block W.heap.size (lt_of_block HBX.out)).trans HBX.out; obtain ⟨⟨X0, X1, X2, X3⟩, f0, f1, f2, f3⟩ := box_frozen hbx)); (try (have hbx := (hbp.block wn.heap.size (lt_alloc wn _)).trans (blk_new wn _); obtain ⟨⟨X0, X1, X2, X3⟩, f0, f1, f2, f3⟩ := box_frozen hbx))))
    all_goals
      go_wp2_with fail
      go_meet
      first
        | exact sp_cut_new hbW hltW ⟨b0, b1, b2, b3⟩ HBP.out hX.out
        | exact sp_cut_set hbW hltW ⟨b0, b1, b2, b3⟩ HBP.out hX.out (by omega) (by first | exact lt_of_block HBX.out | exact lt_alloc wn _) hbx
  case rest =>
    obtain ⟨g, X, AX, cX, rfl, hbx, hlt3, hgx, hc1, hc2, hty, hxok, hxsz⟩ := hcut
    have HTX := Lib.hid hty
    have HXO := Lib.hid hxok
    have hbwx : Below w.heap.size w wc := hb3.trans (hbx.mono hs3)
    have HVX : Hid (∀ W : World, Below wc.heap.size wc W → Calls Tryd.prog 15 #[.agg #[.int .i64 X.kind, .string X.name, .int .i64 X.index, .slice AX X.args.length cX]] W fun e w' => e = .returned (.int .i64 X.validate) ∧ Below W.heap.size W w') := Lib.hid (fun W hW => c_Validate2 X W _ _ G _ (HTX.out.below hW (Nat.le_refl _)) hW.size HXO.out (by omega) ((HE.out.below hbwx hG).below hW (by have := hbwx.size; omega)) (by have := hW.size; have := hbwx.size; omega))
    have HRX : Hid (∀ W : World, Below wc.heap.size wc W → Calls Tryd.prog 16 #[.agg #[.int .i64 X.kind, .string X.name, .int .i64 X.index, .slice AX X.args.length cX]] W fun e w' => e = .returned (.int .i64 X.validate) ∧ Below W.heap.size W w') := Lib.hid (fun W hW => c_TermValidate2 X W _ _ _ (HTX.out.below hW (Nat.le_refl _)) hW.size HXO.out (by omega))
    clear hty hxok
    generalize X.validate = vx at *
    generalize X.kind = k2, X.name = n2, X.index = i2, X.args.length = l2 at *
    have SK2 := Lib.hid (box_sk2 hc1 hc2 hlt3 hgx)
    clear hc1 hc2 SK HTX HXO
    go_wp2_with fail
    go_region_held3 (fun W' : World => Below wc.heap.size wc W' ∧ (W'.cell? ⟨w3.heap.size, 0, none⟩ = some (.int .i64 k1) ∧ W'.cell? ⟨w3.heap.size, 1, none⟩ = some (.string n1) ∧ W'.cell? ⟨w3.heap.size, 2, none⟩ = some (.int .i64 i1) ∧ W'.cell? ⟨w3.heap.size, 3, none⟩ = some (.slice A1 l1 c1)) ∧ (W'.cell? ⟨g, 0, none⟩ = some (.int .i64 k2) ∧ W'.cell? ⟨g, 1, none⟩ = some (.string n2) ∧ W'.cell? ⟨g, 2, none⟩ = some (.int .i64 i2) ∧ W'.cell? ⟨g, 3, none⟩ = some (.slice AX l2 cX)))
      (first | exact SK2.out _ (below_drew _) | exact SK2.out _ (below_step (And.left (by assumption)) hbn))
      (first
      | (go_at_call 14; refine (HCK.out _ ?hbel4).mono ?_; (case hbel4 => exact below_step hbx (And.left (by assumption))); rintro e wn ⟨rfl, hbn⟩)
      | (go_at_call_of 15 (Value.agg #[Value.int IntKind.i64 k1, Value.string n1, Value.int IntKind.i64 i1, Value.slice A1 l1 c1]); refine (HV1.out _ ?hbel5).mono ?_; (case hbel5 => exact below_step hbx (And.left (by assumption))); rintro e wn ⟨rfl, hbn⟩)
      | (go_at_call_of 16 (Value.agg #[Value.int IntKind.i64 k1, Value.string n1, Value.int IntKind.i64 i1, Value.slice A1 l1 c1]); refine (HR1.out _ ?hbel6).mono ?_; (case hbel6 => exact below_step hbx (And.left (by assumption))); rintro e wn ⟨rfl, hbn⟩)
      | (go_at_call_of 15 (Value.agg #[Value.int IntKind.i64 k2, Value.string n2, Value.int IntKind.i64 i2, Value.slice AX l2 cX]); refine (HVX.out _ ?hbel7).mono ?_; (case hbel7 => exact And.left (by assumption)); rintro e wn ⟨rfl, hbn⟩)
      | (go_at_call_of 16 (Value.agg #[Value.int IntKind.i64 k2, Value.string n2, Value.int IntKind.i64 i2, Value.slice AX l2 cX]); refine (HRX.out _ ?hbel8).mono ?_; (case hbel8 => exact And.left (by assumption)); rintro e wl ⟨rfl, hbn⟩))
    have hbl : Below wc.heap.size wc wl := And.left (by assumption)
    go_wp2
    go_ret
    exact ⟨rfl, hbwx.trans (hbl.mono hbwx.size)⟩
end Go.Proofs.YtdbflfakocaapaaDoor
