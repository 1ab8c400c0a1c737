/- The walk of tellaw2.TermSubstituteVars: it returns true. -/
import Derived.Test.YtdbflfakocaapaaDoorLawAid
import Derived.Test.YtdbflfakocaapaaDoorSubVP
import Derived.Test.YtdbflfakocaapaaDoorCollect3
import Derived.Test.YtdbflfakocaapaaDoorCons
import Derived.Test.YtdbflfakocaapaaDoorSame
import Derived.Deep.RegionHeld3
import Derived.Deep.DeepCutAuto
namespace Go.Proofs.YtdbflfakocaapaaDoor
open Go.RowKit
attribute [local go_sem ↓] Go.wp_at_zero Go.wp_at_succ

mutual
theorem fvs_lt : ∀ (t : Ty) (d V : Int), t.closed (d + V) = true → ∀ x ∈ t.fvs d, 0 ≤ x ∧ x < V
  | ⟨k, nm, ix, args⟩, d, V, hc, x, hx => by
    unfold Ty.closed at hc
    unfold Ty.fvs at hx
    simp only [Bool.and_eq_true, Bool.not_eq_true', Bool.and_eq_false_iff, decide_eq_false_iff_not] at hc
    rcases List.mem_append.1 hx with h | h
    · by_cases hk : k = 5 ∧ d ≤ ix
      · rw [if_pos hk] at h
        obtain rfl : x = ix - d := by simpa using h
        rcases hc.1 with h1 | h1
        · exact absurd hk.1 (by simpa using h1)
        · omega
      · rw [if_neg hk] at h; cases h
    · exact fvss_lt k args 0 d V hc.2 x h
theorem fvss_lt (k : Int) : ∀ (ts : List Ty) (i : Nat) (d V : Int), Ty.closeds k ts i (d + V) = true → ∀ x ∈ Ty.fvss k ts i d, 0 ≤ x ∧ x < V
  | [], _, _, _, _, x, hx => by unfold Ty.fvss at hx; cases hx
  | t :: ts, i, d, V, hc, x, hx => by
    unfold Ty.closeds at hc
    unfold Ty.fvss at hx
    rw [Bool.and_eq_true] at hc
    rcases List.mem_append.1 hx with h | h
    · exact fvs_lt t (d + bindI k i) V (by rw [show d + bindI k i + V = d + V + bindI k i by omega]; exact hc.1) x h
    · exact fvss_lt k ts (i + 1) d V hc.2 x h
 end
theorem dec1_take (l : List Int) (j : Nat) (hj : j < l.length) : dec1 (l.take (j + 1)) = dec1 (l.take j) ++ (if 0 < l[j] then [l[j] - 1] else []) := by
  rw [List.take_succ_eq_append_getElem hj, dec1_append]
  congr 1
  unfold dec1
  by_cases h : 0 < l[j] <;> simp [h]
theorem dec1_len (l : List Int) : (dec1 l).length ≤ l.length := by
  unfold dec1
  rw [List.length_map]
  exact List.length_filter_le _ _
theorem three_tys {w : World} {a : Ty} {Aa : Option Addr} {ca : Nat} (ha : IsTy w 0 w.heap.size a (.agg #[.int .i64 a.kind, .string a.name, .int .i64 a.index, .slice Aa a.args.length ca])) :
    ∀ W : World, W = w.alloc (.cells #[.int .i64 a.kind, .string a.name, .int .i64 a.index, .slice Aa a.args.length ca, .int .i64 a.kind, .string a.name, .int .i64 a.index, .slice Aa a.args.length ca, .int .i64 a.kind, .string a.name, .int .i64 a.index, .slice Aa a.args.length ca] 25) →
    IsTyl W 0 W.heap.size [a, a, a] (.slice (some ⟨w.heap.size, 0, none⟩) 3 3) ∧ Below w.heap.size w W := by
  rintro W rfl
  have hn := blk_new w (.cells #[.int .i64 a.kind, .string a.name, .int .i64 a.index, .slice Aa a.args.length ca, .int .i64 a.kind, .string a.name, .int .i64 a.index, .slice Aa a.args.length ca, .int .i64 a.kind, .string a.name, .int .i64 a.index, .slice Aa a.args.length ca] 25)
  have hb' := below_new w (.cells #[.int .i64 a.kind, .string a.name, .int .i64 a.index, .slice Aa a.args.length ca, .int .i64 a.kind, .string a.name, .int .i64 a.index, .slice Aa a.args.length ca, .int .i64 a.kind, .string a.name, .int .i64 a.index, .slice Aa a.args.length ca] 25)
  generalize w.alloc _ = W at *
  have hs := hb'.size
  have hlt := blk_lt' hn
  have hc : ∀ i, W.cell? ⟨w.heap.size, i, none⟩ = #[Value.int .i64 a.kind, .string a.name, .int .i64 a.index, .slice Aa a.args.length ca, .int .i64 a.kind, .string a.name, .int .i64 a.index, .slice Aa a.args.length ca, .int .i64 a.kind, .string a.name, .int .i64 a.index, .slice Aa a.args.length ca][i]? := fun i => cell_of_row W w.heap.size i _ _ _ hn
  have ha' := (ha.below hb' (Nat.le_refl _)).more (Nat.zero_le _) hs
  refine ⟨⟨_, _, rfl, Nat.le_refl _, .inr ⟨w.heap.size, 0, rfl, Nat.zero_le _, hlt, ?_⟩⟩, hb'⟩
  unfold IsTys IsTys IsTys IsTys
  exact ⟨⟨_, _, _, _, hc 0, hc 1, hc 2, hc 3, ha'⟩, ⟨_, _, _, _, hc 4, hc 5, hc 6, hc 7, ha'⟩, ⟨_, _, _, _, hc 8, hc 9, hc 10, hc 11, ha'⟩, trivial⟩

/-- What the statement 'same := ..' leaves: the variable's box and the term in it. -/
def VCut (wz : World) (X : Ty) (s : Value) (wx : World) : Prop := ∃ (g : Nat) (AX : Option Addr) (cX : Nat), s = .pointer (some ⟨g, 0, none⟩) ∧ Below wz.heap.size wz wx ∧ wz.heap.size ≤ g ∧ g < wx.heap.size ∧ (wx.cell? ⟨g, 0, none⟩ = some (.int .i64 X.kind) ∧ wx.cell? ⟨g, 1, none⟩ = some (.string X.name) ∧ wx.cell? ⟨g, 2, none⟩ = some (.int .i64 X.index) ∧ wx.cell? ⟨g, 3, none⟩ = some (.slice AX X.args.length cX)) ∧ TyAt wx X (.agg #[.int .i64 X.kind, .string X.name, .int .i64 X.index, .slice AX X.args.length cX])
theorem vcut_new {wz wp : World} {X : Ty} {AX : Option Addr} {cX : Nat} (hb : Below wz.heap.size wz wp) (hX : TyAt wp X (.agg #[.int .i64 X.kind, .string X.name, .int .i64 X.index, .slice AX X.args.length cX])) :
    VCut wz X (.pointer (some ⟨wp.heap.size, 0, none⟩)) (wp.alloc (.cells #[.int .i64 X.kind, .string X.name, .int .i64 X.index, .slice AX X.args.length cX] 25)) :=
  ⟨_, AX, cX, rfl, below_step hb (below_new _ _), hb.size, by simp, box_alloc _ _ _ _ _ _, hX.grow (below_new _ _)⟩
theorem vcut_set {wz wp : World} {X : Ty} {lo g : Nat} {AX : Option Addr} {cX : Nat} {x0 x1 x2 x3 : Value} (hb : Below wz.heap.size wz wp) (hX : IsTy wp lo wp.heap.size X (.agg #[.int .i64 X.kind, .string X.name, .int .i64 X.index, .slice AX X.args.length cX])) (hg : wz.heap.size ≤ g) (hgl : g < lo) (hgb : wp.heap[g]? = some (.cells #[x0, x1, x2, x3] 25 (0, 0))) :
    VCut wz X (.pointer (some ⟨g, 0, none⟩)) ((((wp.setCell ⟨g, 0, none⟩ (.int .i64 X.kind)).setCell ⟨g, 1, none⟩ (.string X.name)).setCell ⟨g, 2, none⟩ (.int .i64 X.index)).setCell ⟨g, 3, none⟩ (.slice AX X.args.length cX)) := by
  obtain ⟨s1, s2, s3⟩ := set4 (.int .i64 X.kind) (.string X.name) (.int .i64 X.index) (.slice AX X.args.length cX) hgb
  have hlt := blk_lt' hgb
  refine ⟨_, AX, cX, rfl, ⟨hb.os, hb.tape, hb.output, by rw [s3]; exact hb.size, fun k hk => (s2 k (by omega)).trans (hb.block k hk)⟩, hg, by rw [s3]; exact hlt, (box_frozen s1).1, ?_⟩
  exact hX.keep (fun b h1 h2 => s2 b (by omega)) (Nat.zero_le _) (by rw [s3]; exact Nat.le_refl _)

theorem below_setC4 {w W : World} {b : Nat} {u0 u1 u2 u3 : Value} (h : Below w.heap.size w W) (hb : w.heap.size ≤ b) : Below w.heap.size w ((((W.setCell ⟨b, 0, none⟩ u0).setCell ⟨b, 1, none⟩ u1).setCell ⟨b, 2, none⟩ u2).setCell ⟨b, 3, none⟩ u3) :=
  ⟨h.os, h.tape, h.output, by simp [World.setCell]; exact h.size, fun k hk => by
    rw [Below.heap_setCell _ _ _ _ (by show k ≠ b; omega), Below.heap_setCell _ _ _ _ (by show k ≠ b; omega), Below.heap_setCell _ _ _ _ (by show k ≠ b; omega), Below.heap_setCell _ _ _ _ (by show k ≠ b; omega)]
    exact h.block k hk⟩
theorem lt_allocV (w : World) (o : Obj) : w.heap.size < (w.alloc o).heap.size := by simp
theorem box_sk3 {wr : World} {b d g : Nat} {u0 u1 u2 u3 v0 v1 v2 v3 x0 x1 x2 x3 : Value} (h : wr.cell? ⟨b, 0, none⟩ = some (u0) ∧ wr.cell? ⟨b, 1, none⟩ = some (u1) ∧ wr.cell? ⟨b, 2, none⟩ = some (u2) ∧ wr.cell? ⟨b, 3, none⟩ = some (u3)) (k : wr.cell? ⟨d, 0, none⟩ = some (v0) ∧ wr.cell? ⟨d, 1, none⟩ = some (v1) ∧ wr.cell? ⟨d, 2, none⟩ = some (v2) ∧ wr.cell? ⟨d, 3, none⟩ = some (v3)) (l : wr.cell? ⟨g, 0, none⟩ = some (x0) ∧ wr.cell? ⟨g, 1, none⟩ = some (x1) ∧ wr.cell? ⟨g, 2, none⟩ = some (x2) ∧ wr.cell? ⟨g, 3, none⟩ = some (x3)) (hl : b < wr.heap.size) (hd : d < wr.heap.size) (hg : g < wr.heap.size) :
    ∀ W : World, Below wr.heap.size wr W → Below wr.heap.size wr W ∧ (W.cell? ⟨b, 0, none⟩ = some (u0) ∧ W.cell? ⟨b, 1, none⟩ = some (u1) ∧ W.cell? ⟨b, 2, none⟩ = some (u2) ∧ W.cell? ⟨b, 3, none⟩ = some (u3)) ∧ (W.cell? ⟨d, 0, none⟩ = some (v0) ∧ W.cell? ⟨d, 1, none⟩ = some (v1) ∧ W.cell? ⟨d, 2, none⟩ = some (v2) ∧ W.cell? ⟨d, 3, none⟩ = some (v3)) ∧ (W.cell? ⟨g, 0, none⟩ = some (x0) ∧ W.cell? ⟨g, 1, none⟩ = some (x1) ∧ W.cell? ⟨g, 2, none⟩ = some (x2) ∧ W.cell? ⟨g, 3, none⟩ = some (x3)) := fun W hb =>
  ⟨hb, (box_sk2 h k hl hd W hb).2.1, (box_sk2 h k hl hd W hb).2.2, (box_sk2 h l hl hg W hb).2.2⟩

set_option maxRecDepth 20000 in
set_option maxHeartbeats 8000000 in
theorem c_lawTermSubstituteVars (x0 x1 : List Int) (v0 v1 : Value) (vars : Int) (w : World) (G : Nat) (hv0 : IsInts w w.heap.size x0 v0) (hv1 : IsInts w w.heap.size x1 v1) (hx0 : ∀ x ∈ x0, inI x) (hx1 : ∀ x ∈ x1, inI x) (hn0 : x0.length ≤ 2 ^ 47) (hn1 : x1.length ≤ 2 ^ 47) (_ : inI vars) (hE : EnvR w G) (hN : EnvN 1 4 w G) (hG : G ≤ w.heap.size) :
    Calls Tryd.prog 11 #[v0, v1, .int .i64 vars] w fun e w' => e = .returned (.bool true) ∧ Below w.heap.size w w' := by
  have HV0 := Lib.hid hv0
  have HV1 := Lib.hid hv1
  have HX0 := Lib.hid hx0
  have HX1 := Lib.hid hx1
  have HE := Lib.hid hE
  have HN := Lib.hid hN
  obtain ⟨E0, d0, rfl, _⟩ := hv0
  obtain ⟨E1, d1, rfl, _⟩ := hv1
  clear hE hN hx0 hx1
  generalize hln0 : x0.length = m0 at *
  generalize hln1 : x1.length = m1 at *
  have HL0 := Lib.hid hln0
  have HL1 := Lib.hid hln1
  clear hln0 hln1
  go_enter Tryd.func11, Tryd.ntmps11
  go_wp2_with fail
  refine (c_NewR x0 _ w HV0.out HX0.out (by rw [HL0.out]; omega)).mono ?_
  rintro e w1 ⟨rfl, hst1, hb1, hs1⟩
  have HST1 := Lib.hid hst1
  clear hst1
  go_wp2_with fail
  refine (c_Base w1).mono ?_
  rintro e w2 ⟨vd, rfl, hd2, hb2⟩
  have HP := Lib.hid (gpreA HST1.out hb1 hs1 hd2 hb2 HN.out hG)
  have hs2 := hb2.size
  clear hd2
  go_wp2_with fail
  have hmod := Int.emod_nonneg vars (show (4 : Int) ≠ 0 by omega)
  have hmod2 := Int.emod_lt_of_pos vars (show (0 : Int) < 4 by omega)
  refine (c_Mod_q vars 4 _ (by omega) (by omega)).mono ?_
  generalize vars % 4 = q at *
  rintro e wn ⟨rfl, rfl⟩
  go_wp2_with fail
  refine (c_OpenTerm q hmod (by omega) _ w.heap.size _ G vd HP.out).mono ?_
  rintro e w3 ⟨T1, A1, c1, r3, rfl, hty1, hgd1, hr3, hst3, hg3⟩
  have hb3 : Below w.heap.size w w3 := (below_step hb1 (hb2.mono (by omega))).trans (grownA hg3 (Nat.le_refl _) (by omega))
  have hs3 := hb3.size
  have HTY1 := Lib.hid hty1
  have HGD1 : Hid (Good 3 (2 ^ 50) T1) := Lib.hid (hgd1.mono (by omega) (by rw [HL0.out]; omega))
  have HB4 : Hid (∀ W : World, W = w3.alloc (.cells #[.int .i64 T1.kind, .string T1.name, .int .i64 T1.index, .slice A1 T1.args.length c1] 25) → W.heap[w3.heap.size]? = some (.cells #[.int .i64 T1.kind, .string T1.name, .int .i64 T1.index, .slice A1 T1.args.length c1] 25 (0, 0)) ∧ Below w3.heap.size w3 W ∧ W.heap.size = w3.heap.size + 1) := Lib.hid (fun W hW => by
    subst hW
    exact ⟨blk_new _ _, below_new _ _, by simp⟩)
  clear hty1 hgd1 hst3 hg3 hr3 HST1 HP hb1 hb2 hs1 hs2
  go_wp2_with fail
  generalize hW4 : w3.alloc _ = w4
  obtain ⟨hbox4, hb34, hs34⟩ := HB4.out w4 hW4.symm
  have hs34a : w3.heap.size + 1 ≤ w4.heap.size := Nat.le_of_eq hs34.symm
  have hs34b : w4.heap.size ≤ w3.heap.size + 1 := Nat.le_of_eq hs34
  clear hs34
  have HBOX4 := Lib.hid hbox4
  clear hW4 HB4 hbox4
  have hb4 : Below w.heap.size w w4 := hb3.trans (hb34.mono hs3)
  refine (c_NewR x1 _ w4 ((HV1.out.below hb4 (Nat.le_refl _)).more hb4.size) HX1.out (by rw [HL1.out]; omega)).mono ?_
  rintro e w5 ⟨rfl, hst5, hb5, hs5⟩
  have HST5 := Lib.hid hst5
  clear hst5
  go_wp2_with fail
  refine (c_Base w5).mono ?_
  rintro e w6 ⟨vd2, rfl, hd6, hb6⟩
  have hs6 := hb6.size
  have hs5a : w4.heap.size + 1 ≤ w5.heap.size := Nat.le_of_eq hs5.symm
  have HP2 := Lib.hid (gpreA HST5.out hb5 hs5 hd6 hb6 (HN.out.keep fun b hb => hb4.block b (by omega)) (by omega))
  clear hd6 hs5
  go_wp2_with fail
  refine (c_Term w6 w4.heap.size _ G vd2 HP2.out).mono ?_
  rintro e w7 ⟨B1, A2, c2, r7, rfl, hty7, hgd7, hr7, hst7, hg7⟩
  have hb47 : Below w4.heap.size w4 w7 := (below_step hb5 (hb6.mono (by omega))).trans (grownA hg7 (Nat.le_refl _) (by omega))
  have hs7 := hg7.size
  have HTY7 := Lib.hid hty7
  have HGD7 : Hid (Good 0 (2 ^ 50) B1) := Lib.hid (hgd7.mono (by omega) (by rw [HL1.out]; omega))
  have HST7 := Lib.hid hst7
  clear hty7 hgd7 hg7 HST5 hst7
  have hlt7 := HST7.out.lt
  have hb37 : Below w3.heap.size w3 w7 := hb34.trans (hb47.mono (by omega))
  have HTT : Hid (IsTy w7 0 w7.heap.size T1 (.agg #[.int .i64 T1.kind, .string T1.name, .int .i64 T1.index, .slice A1 T1.args.length c1])) := Lib.hid ((HTY1.out.below hb37 (Nat.le_refl _)).more (Nat.zero_le _) hb37.size)
  have HTB : Hid (IsTy w7 0 w7.heap.size B1 (.agg #[.int .i64 B1.kind, .string B1.name, .int .i64 B1.index, .slice A2 B1.args.length c2])) := Lib.hid (HTY7.out.more (Nat.zero_le _) (Nat.le_refl _))
  have HBOX7 := Lib.hid ((hb47.block w3.heap.size (by omega)).trans HBOX4.out)
  have hb07 : Below w.heap.size w w7 := hb4.trans (hb47.mono hb4.size)
  have hlt3 : w3.heap.size < w7.heap.size := by omega
  have hG7 : G ≤ w7.heap.size := by omega
  have HCK : Hid (∀ W : World, Below w7.heap.size w7 W → Calls Tryd.prog 14 #[] W fun e w' => e = .returned (.bool true) ∧ Below W.heap.size W w') := Lib.hid (fun W hW => c_check W G ((HE.out.below hb07 hG).below hW hG7) (Nat.le_trans hG7 hW.size))
  have hcl1 := HGD1.out.closed
  have hcb := HGD7.out.closed
  have hd1 := Nat.le_trans (Ty.depth_le T1) HGD1.out.size
  have hdb := Nat.le_trans (Ty.depth_le B1) HGD7.out.size
  have hg1 := repl_good (fSub_good HGD7.out.nar HGD7.out.ok) T1 0 HGD1.out.nar HGD1.out.ok (Int.le_refl _)
  have hg2 := repl_good (fSub_good HGD7.out.nar HGD7.out.ok) _ 0 hg1.1 hg1.2.1 (Int.le_refl _)
  have hg3 := repl_good (fSub_good HGD7.out.nar HGD7.out.ok) _ 0 hg2.1 hg2.2.1 (Int.le_refl _)
  have hti := inst_sub3 B1 hcb.1 T1 0 hcl1.2 (Int.le_refl _) hcl1.1
  have hfi := inst_fvs B1 hcb.1 T1 0 hcl1.2 (Int.le_refl _) hcl1.1
  have haw := after_want B1 T1 hcb.1 hcl1.2
  have hk1 : ∀ x ∈ T1.fvs 0, 0 ≤ x ∧ x < 100 := fun x hx => by have := fvs_lt T1 0 3 hcl1.1 x hx; omega
  have hkS : ∀ x ∈ (T1.repl (fSub B1) 0).fvs 0, 0 ≤ x ∧ x < 100 := fun x hx => by
    rw [sub_fvs B1 hcb.1 T1 0 hcl1.2 (Int.le_refl _)] at hx
    simp only [dec1, List.mem_map, List.mem_filter, decide_eq_true_eq] at hx
    obtain ⟨y, ⟨hy, hy0⟩, rfl⟩ := hx
    have := hk1 y hy
    omega
  have HFV : Hid (∀ W : World, Below w7.heap.size w7 W → Calls Tryd.prog 25 #[.agg #[.int .i64 T1.kind, .string T1.name, .int .i64 T1.index, .slice A1 T1.args.length c1]] W (RetInts (insAll [] (T1.fvs 0)) W)) := Lib.hid (fun W hW => c_FreeVarsD T1 W _ _ _ (HTT.out.below hW (Nat.le_refl _)) hW.size HGD1.out.ok HGD1.out.nar (by omega) hk1)
  have HFS : Hid (∀ (W : World) (u : Value), TyAt W (T1.repl (fSub B1) 0) u → Calls Tryd.prog 25 #[u] W (RetInts (insAll [] ((T1.repl (fSub B1) 0).fvs 0)) W)) := Lib.hid (fun W u hu => c_FreeVarsD _ W _ _ _ hu (Nat.le_refl _) hg1.2.1 hg1.1 (by omega) hkS)
  have HS1 : Hid (∀ W : World, Below w7.heap.size w7 W → Calls Tryd.prog 42 #[.agg #[.int .i64 T1.kind, .string T1.name, .int .i64 T1.index, .slice A1 T1.args.length c1], .agg #[.int .i64 B1.kind, .string B1.name, .int .i64 B1.index, .slice A2 B1.args.length c2]] W (RetT (T1.repl (fSub B1) 0) W)) := Lib.hid (fun W hW => (c_SubstituteD T1 B1 W _ _ _ _ _ _ (HTT.out.below hW (Nat.le_refl _)) (HTB.out.below hW (Nat.le_refl _)) hW.size hW.size HGD1.out.nar HGD7.out.nar HGD1.out.ok (by omega) (Nat.le_trans HGD7.out.size (by omega))).mono NewTy.ret)
  have HS2 : Hid (∀ (W : World) (u : Value), Below w7.heap.size w7 W → TyAt W (T1.repl (fSub B1) 0) u → Calls Tryd.prog 42 #[u, .agg #[.int .i64 B1.kind, .string B1.name, .int .i64 B1.index, .slice A2 B1.args.length c2]] W (RetT ((T1.repl (fSub B1) 0).repl (fSub B1) 0) W)) := Lib.hid (fun W u hW hu => (c_SubstituteD _ B1 W _ _ _ _ _ _ hu (HTB.out.below hW (Nat.le_refl _)) (Nat.le_refl _) hW.size hg1.1 HGD7.out.nar hg1.2.1 (by omega) (Nat.le_trans HGD7.out.size (by omega))).mono NewTy.ret)
  have HS3 : Hid (∀ (W : World) (u : Value), Below w7.heap.size w7 W → TyAt W ((T1.repl (fSub B1) 0).repl (fSub B1) 0) u → Calls Tryd.prog 42 #[u, .agg #[.int .i64 B1.kind, .string B1.name, .int .i64 B1.index, .slice A2 B1.args.length c2]] W (NewTy (sub3 B1 T1 0) W)) := Lib.hid (fun W u hW hu => c_SubstituteD _ B1 W _ _ _ _ _ _ hu (HTB.out.below hW (Nat.le_refl _)) (Nat.le_refl _) hW.size hg2.1 HGD7.out.nar hg2.2.1 (by omega) (Nat.le_trans HGD7.out.size (by omega)))
  rw [hti] at hfi
  have HIN : Hid (∀ (W : World) (v : Value), Below w7.heap.size w7 W → IsTyl W 0 W.heap.size [B1, B1, B1] v → Calls Tryd.prog 47 #[.agg #[.int .i64 T1.kind, .string T1.name, .int .i64 T1.index, .slice A1 T1.args.length c1], v] W (NewTy (sub3 B1 T1 0) W)) := Lib.hid (fun W v hW hv => by
    rw [← hti]
    exact c_InstantiateD T1 [B1, B1, B1] W _ _ _ _ _ _ (HTT.out.below hW (Nat.le_refl _)) hv hW.size (Nat.le_refl _) HGD1.out.nar (fun b hb => by
      obtain rfl : b = B1 := by simpa using hb
      exact ⟨HGD7.out.nar, Nat.le_trans HGD7.out.size (by omega)⟩) (show 3 ≤ 2 ^ 40 by decide) HGD1.out.ok (by omega))
  have HFX : Hid (∀ (W : World) (u : Value), TyAt W (sub3 B1 T1 0) u → Calls Tryd.prog 25 #[u] W (RetInts [] W)) := Lib.hid (fun W u hu => by
    have := c_FreeVarsD (sub3 B1 T1 0) W _ _ _ hu (Nat.le_refl _) hg3.2.1 hg3.1 (by unfold sub3; omega) (by rw [hfi]; simp)
    rw [hfi] at this
    exact this)
  have HXN : Hid (sub3 B1 T1 0).nar := Lib.hid hg3.1
  have HFI : Hid ((insAll [] (T1.fvs 0)).length ≤ 100 ∧ ∀ x ∈ insAll [] (T1.fvs 0), 0 ≤ x ∧ x < 100) := Lib.hid (by
    have hm : ∀ x ∈ insAll [] (T1.fvs 0), 0 ≤ x ∧ x < 100 := fun x hx => by
      rcases (insAll_mem x _ _).1 hx with h | h
      · cases h
      · exact hk1 x h
    exact ⟨small_len (insAll_sorted [] _ .nil) hm, hm⟩)
  rw [haw] at HFS
  have HB8 : Hid (∀ W : World, W = w7.alloc (.cells #[.int .i64 B1.kind, .string B1.name, .int .i64 B1.index, .slice A2 B1.args.length c2] 25) → Below w7.heap.size w7 W ∧ w7.heap.size < W.heap.size ∧ (W.cell? ⟨w7.heap.size, 0, none⟩ = some (.int .i64 B1.kind) ∧ W.cell? ⟨w7.heap.size, 1, none⟩ = some (.string B1.name) ∧ W.cell? ⟨w7.heap.size, 2, none⟩ = some (.int .i64 B1.index) ∧ W.cell? ⟨w7.heap.size, 3, none⟩ = some (.slice A2 B1.args.length c2))) := Lib.hid (fun W hW => by
    subst hW
    exact ⟨below_new _ _, by simp, box_alloc _ _ _ _ _ _⟩)
  have H3T := Lib.hid (fun (W : World) (hW : Below w7.heap.size w7 W) => three_tys ((HTB.out.below hW (Nat.le_refl _)).more (Nat.zero_le _) hW.size))
  clear HTT HTB HGD1 HGD7 hcl1 hcb hd1 hdb hg1 hg2 hg3 hti hfi haw hk1 hkS HTY1 HTY7 HST7 HP2 HBOX4
  generalize T1.repl (fSub B1) 0 = TS at *
  generalize TS.repl (fSub B1) 0 = TR at *
  generalize sub3 B1 T1 0 = X at *
  generalize insAll [] (T1.fvs 0) = fi at *
  generalize hLB : [B1, B1, B1] = LB at *
  clear hLB
  generalize T1.kind = k1, T1.name = n1, T1.index = i1, T1.args.length = l1 at *
  generalize B1.kind = k2, B1.name = n2, B1.index = i2, B1.args.length = l2 at *
  obtain ⟨hb78, hlt8, hbx8⟩ := HB8.out _ rfl
  obtain ⟨⟨y0, y1, y2, y3⟩, _⟩ := box_frozen ((hb78.block w3.heap.size hlt3).trans HBOX7.out)
  go_wp2_with fail
  clear y0 y1 y2 y3
  generalize hW8 : w7.alloc _ = w8 at *
  have SK := Lib.hid (box_sk2 (box_frozen ((hb78.block w3.heap.size hlt3).trans HBOX7.out)).1 hbx8 (by omega) hlt8)
  clear hW8 HB8 hbx8 HBOX7
  refine (HFV.out w8 hb78).mono ?_
  rintro e w9 ⟨vf, rfl, hvf, hb89⟩
  have HVF := Lib.hid hvf
  clear hvf HFV
  obtain ⟨_, ⟨y0, y1, y2, y3⟩, z0, z1, z2, z3⟩ := SK.out w9 hb89
  have hb79 := below_step hb78 hb89
  go_wp2_with fail
  refine (HS1.out w9 hb79).mono ?_
  rintro e w10 ⟨u10, rfl, ht10, hb910⟩
  clear y0 y1 y2 y3 z0 z1 z2 z3
  go_wp2_with fail
  refine (HFS.out w10 u10 ht10.out).mono ?_
  rintro e w11 ⟨va, rfl, hva, hb1011⟩
  have HVA := Lib.hid hva
  clear hva HFS ht10
  have hb811 : Below w8.heap.size w8 w11 := below_step (below_step hb89 hb910) hb1011
  have hb711 := below_step hb78 hb811
  have HVF1 := Lib.hid (HVF.out.below (below_step hb910 hb1011) (Nat.le_refl _))
  have hs911 := (below_step hb910 hb1011).size
  have HOUT := Lib.hid (HVF1.out)
  obtain ⟨Af, cf, rfl, _, _, _, hspf, hrf⟩ := HOUT.out
  have HRF := Lib.hid hrf
  clear HVF HOUT hrf
  generalize hfl : fi.length = nf at *
  have HFL := Lib.hid hfl
  clear hfl
  obtain ⟨i0, hi0, hz0, hz1, hz2⟩ := info_parts info_int
  have HI : Hid (i0.zero = some (.int .i64 0) ∧ i0.size = 1 ∧ i0.bytes = 8) := Lib.hid ⟨hz0, hz1, hz2⟩
  have Hi0 := Lib.hid hi0
  clear hi0 hz0 hz1 hz2
  have hnf := HFI.out.1
  go_wp2
  go_loopw [11, 12] (fun s11 s12 wr => ∃ j : Nat, j ≤ nf ∧ s12 = .int .i64 j ∧ Hid (∃ ws, ws = dec1 (fi.take j) ∧ ws.length ≤ j ∧ wr.ownsRow w11.heap.size 3 1 s11 ws.length (ints ws)) ∧ Below w11.heap.size w11 wr) (fun _ i _ => nf - (intOf i).toNat)
  case atStart => exact ⟨0, by omega, rfl, Lib.hid ⟨[], by simp [dec1], by simp, ⟨rfl, .inl ⟨rfl, rfl⟩⟩⟩, Below.refl _ _⟩
  case round =>
    obtain ⟨j, hj, rfl, HOW, hbr⟩ := hrel
    have hsr := hbr.size
    by_cases hjn : j < nf
    · obtain ⟨_, h0 | ⟨g, o, rfl, hg, hc⟩⟩ := HRF.out
      · omega
      have hj' : j < fi.length := by rw [HFL.out]; exact hjn
      have hx : (ints fi)[j]? = some (.int .i64 fi[j]) := by simp [ints, hj']
      have k1 := (hbr.cell (p := ⟨g, o + j, none⟩) (show g < _ by omega)).trans (hc j _ hx)
      have hxb := HFI.out.2 _ (List.getElem_mem hj')
      have HDT := Lib.hid (dec1_take fi j hj')
      obtain ⟨ws, hws, hwl, how⟩ := HOW.out
      have HWS := Lib.hid hws
      have HOWN := Lib.hid how
      generalize fi[j] = x at *
      obtain ⟨hx0, hx1⟩ := hxb
      have hj0 : (0 : Int) ≤ (j : Int) := by omega
      have hj1 : (j : Int) < (nf : Int) := by omega
      have hwx : IntKind.i64.wrap (x - 1) = x - 1 := IntWalk.i64_in _ (by omega)
      have hogw := own_ge how
      clear hc hx hws how HOW
      by_cases hx2 : 0 < x
      · go_wp2_with (first
          | (at_builtin; refine wpList_append_rd _ rfl (.tmp 42) (.tmp 48) 22 rfl w11.heap.size 3 i0 (.int .i64 0) 1 8 Tryd.underlying22 Hi0.out HI.out.1 HI.out.2.1 HI.out.2.2 rfl (by omega) _ ws.length (ints ws) rfl (HOWN.out.alloc _) (wr.heap.size + 1) (some ⟨wr.heap.size, 0, none⟩) 1 1 [.int .i64 (x - 1)] rfl (Rd.blk (cs := #[.int .i64 (x - 1)]) (blk_new _ _) rfl (by omega)) (by simp [Value.oneCell']) (by omega) (by simp; omega) ?_
             intro v5 w5 hown5 hg5 hat5
             have hb5' : Below w11.heap.size w11 w5 := Below.grown (below_step hbr (below_new wr _)) hg5 (by simp; omega) hogw
             have HOWN5 := Lib.hid hown5
             clear hown5 hg5 hat5))
        go_roundw
        case rel => exact ⟨j + 1, by omega, by go_num, Lib.hid ⟨ws ++ [x - 1], by rw [HDT.out, if_pos hx2, HWS.out], by simp; omega, by simpa [ints] using HOWN5.out⟩, hb5'⟩
        case measure => simp [intOf]; omega
      · go_wp2
        go_roundw
        case rel => exact ⟨j + 1, by omega, by go_num, Lib.hid ⟨ws, by rw [HDT.out, if_neg hx2, HWS.out, List.append_nil], by omega, HOWN.out⟩, hbr⟩
        case measure => simp [intOf]; omega
    · obtain rfl : j = nf := by omega
      obtain ⟨ws, hws, hwl, how⟩ := HOW.out
      have hws' : ws = dec1 fi := by rw [hws, ← HFL.out, List.take_length]
      subst hws'
      have HVW := Lib.hid (IsInts.own how)
      clear hws how HOW
      have hb8r := below_step hb811 hbr
      have hb7r := below_step hb711 hbr
      obtain ⟨_, ⟨y0, y1, y2, y3⟩, z0, z1, z2, z3⟩ := SK.out wr hb8r
      go_wp2_with fail
      clear y0 y1 y2 y3 z0 z1 z2 z3
      generalize hW12 : wr.alloc _ = w12
      obtain ⟨htl, hb12⟩ := H3T.out wr hb7r w12 hW12.symm
      have HTL := Lib.hid htl
      clear hW12 H3T htl
      refine (HIN.out w12 _ (below_step hb7r hb12) HTL.out).mono ?_
      rintro e w13 ⟨u13, rfl, hty13, hb13⟩
      obtain ⟨A13, c13, rfl, _⟩ := hty13.args_
      have HT13 := Lib.hid (hty13.at (Nat.le_refl _))
      have hb813 := below_step (below_step hb8r hb12) hb13
      have hb713 := below_step hb78 hb813
      have HVA13 := Lib.hid (HVA.out.below (below_step (below_step hbr hb12) hb13) (Nat.le_refl _))
      have HVW13 := Lib.hid (HVW.out.below (below_step hb12 hb13) (Nat.le_refl _))
      have hs1113 := (below_step (below_step hbr hb12) hb13).size
      have hsr13 := (below_step hb12 hb13).size
      have HB14 : Hid (∀ W : World, W = w13.alloc (.cells #[.int .i64 X.kind, .string X.name, .int .i64 X.index, .slice A13 X.args.length c13] 25) → Below w13.heap.size w13 W ∧ w13.heap.size < W.heap.size ∧ (W.cell? ⟨w13.heap.size, 0, none⟩ = some (.int .i64 X.kind) ∧ W.cell? ⟨w13.heap.size, 1, none⟩ = some (.string X.name) ∧ W.cell? ⟨w13.heap.size, 2, none⟩ = some (.int .i64 X.index) ∧ W.cell? ⟨w13.heap.size, 3, none⟩ = some (.slice A13 X.args.length c13))) := Lib.hid (fun W hW => by
        subst hW
        exact ⟨below_new _ _, by simp, box_alloc _ _ _ _ _ _⟩)
      clear hty13 HTL HIN HVA HVW HVF1 HRF
      go_wp2
      generalize hW14 : w13.alloc _ = w14
      obtain ⟨hb1314, hlt14, hbx14⟩ := HB14.out w14 hW14.symm
      have hb814 := below_step hb813 hb1314
      have hb714 := below_step hb713 hb1314
      obtain ⟨_, hy, hz⟩ := SK.out w14 hb814
      have hs814 := hb814.size
      have hs714 := hb714.size
      have hlt7a : w7.heap.size < w14.heap.size := by omega
      have SK3 := Lib.hid (box_sk3 hy hz hbx14 (by omega) hlt7a hlt14)
      have SK2 := Lib.hid (box_sk2 hy hz (by omega) hlt7a)
      have HT14 := Lib.hid (HT13.out.grow hb1314)
      have HVA14 := Lib.hid (HVA13.out.below hb1314 hs1113)
      have HVW14 := Lib.hid (HVW13.out.below hb1314 hsr13)
      clear hW14 HB14 hbx14 hy hz SK HT13 HVA13 HVW13
      go_cut [14] (fun s14 wx => VCut w14 X s14 wx)
      case first =>
        go_region_held3 (fun W' : World => Below w14.heap.size w14 W' ∧ (W'.cell? ⟨w3.heap.size, 0, none⟩ = some (.int .i64 k1) ∧ W'.cell? ⟨w3.heap.size, 1, none⟩ = some (.string n1) ∧ W'.cell? ⟨w3.heap.size, 2, none⟩ = some (.int .i64 i1) ∧ W'.cell? ⟨w3.heap.size, 3, none⟩ = some (.slice A1 l1 c1)) ∧ (W'.cell? ⟨w7.heap.size, 0, none⟩ = some (.int .i64 k2) ∧ W'.cell? ⟨w7.heap.size, 1, none⟩ = some (.string n2) ∧ W'.cell? ⟨w7.heap.size, 2, none⟩ = some (.int .i64 i2) ∧ W'.cell? ⟨w7.heap.size, 3, none⟩ = some (.slice A2 l2 c2)))
          (first | exact SK2.out _ (below_step hbWp (below_new _ _)) | exact SK2.out _ (below_setC4 hbWp (by first | exact Nat.le_refl _ | exact hsa | exact hsb)) | exact SK2.out _ (below_drew _) | exact SK2.out _ (below_step (And.left (by assumption)) hbn) | exact SK2.out _ (below_step (And.left (by assumption)) (below_new _ _)) | exact SK2.out _ (below_setC4 (And.left (by assumption)) (by first | exact Nat.le_refl _ | exact hsa | exact hsb)))
          (first
          | (go_at_call_of 42 (Value.agg #[Value.int IntKind.i64 k1, Value.string n1, Value.int IntKind.i64 i1, Value.slice A1 l1 c1]); refine (HS1.out _ ?hbel0).mono ?_; (case hbel0 => exact below_step hb714 (And.left (by assumption))); rintro e wa ⟨ua, rfl, hta, hbn⟩; have hba := hbn; have hsa : w14.heap.size ≤ wa.heap.size := Nat.le_trans (by first | exact Nat.le_refl _ | (simp; done) | (simp; omega)) hba.size; (try have HBX := Lib.hid ((hba.block w14.heap.size (lt_allocV w14.drew _)).trans (blk_new w14.drew _))))
          | (go_at_call_of 42 ua; refine (HS2.out _ ua ?hbel1 ?hbel2).mono ?_; (case hbel1 => exact below_step hb714 (And.left (by assumption))); (case hbel2 => first | exact hta.out | exact hta.out.grow (below_new _ _)); rintro e wb ⟨ub, rfl, htb, hbn⟩; have hbb := hbn; have hsb : w14.heap.size ≤ wb.heap.size := Nat.le_trans (by first | exact hsa | (simp; omega)) hbb.size; (try have HBX := Lib.hid ((hbb.block _ (blk_lt' HBX.out)).trans HBX.out)); (try have HBY := Lib.hid ((hbb.block wa.heap.size (lt_allocV wa _)).trans (blk_new wa _))))
          | (go_at_call_of 42 ub; refine (HS3.out _ ub ?hbel3 ?hbel4).mono ?_; (case hbel3 => exact below_step hb714 (And.left (by assumption))); (case hbel4 => first | exact htb.out | exact htb.out.grow (below_new _ _)); rintro e wp ⟨uX, rfl, hX, hbn⟩; obtain ⟨AX, cX, rfl, _⟩ := hX.args_; have HX := Lib.hid hX; clear hX; have hbp := hbn; have hbWp : Below w14.heap.size w14 wp := below_step (And.left (by assumption)) hbn; (try have hgX := blk_lt' HBX.out); (try have hgX := blk_lt' HBY.out); (try have HBX := Lib.hid ((hbp.block _ (blk_lt' HBX.out)).trans HBX.out)); (try have HBX := Lib.hid ((hbp.block _ (blk_lt' HBY.out)).trans HBY.out)); (try have HBX := Lib.hid ((hbp.block wb.heap.size (lt_allocV wb _)).trans (blk_new wb _))); (try (have hbx := HBX.out; obtain ⟨⟨q0, q1, q2, q3⟩, f0, f1, f2, f3⟩ := box_frozen hbx))))
        all_goals
          go_wp2_with fail
          go_meet
          first
            | exact vcut_new hbWp (HX.out.at (Nat.le_refl _))
            | exact vcut_set hbWp HX.out (by first | exact Nat.le_refl _ | exact hsa | exact hsb) (by first | exact hgX | exact lt_allocV wb _) HBX.out
      case rest =>
        obtain ⟨g, AX, cX, rfl, hbx, hgl, hgx, hcX, htX⟩ := hcut
        have HTX := Lib.hid htX
        clear htX
        obtain ⟨_, _, _, hc13⟩ := SK3.out wc hbx
        have SK4 := Lib.hid (box_sk2 hc13 hcX (Nat.lt_of_lt_of_le hlt14 hbx.size) hgx)
        have HT15 := Lib.hid (HT14.out.grow hbx)
        have HVA15 := Lib.hid (HVA14.out.below hbx (Nat.le_trans hs1113 hb1314.size))
        have HVW15 := Lib.hid (HVW14.out.below hbx (Nat.le_trans hsr13 hb1314.size))
        have hbw7c := below_step hb714 hbx
        have hsx := hbx.size
        have hs1314 := hb1314.size
        have HSI : Hid (∀ W : World, Below wc.heap.size wc W → Calls Tryd.prog 31 #[va, u11] W fun e w' => e = .returned (.bool true) ∧ Below W.heap.size W w') := Lib.hid (fun W hW => c_SameInts (dec1 fi) va u11 W _ _ (HVA15.out.below hW (by omega)) (HVW15.out.below hW (by omega)) (by have := hW.size; omega) (by have := hW.size; omega) (Nat.le_trans (dec1_len fi) (by rw [HFL.out]; omega)))
        clear SK3 hc13 hcX HVA14 HVW14 HVA15 HVW15 HT14
        go_wp2_with fail
        refine (HCK.out _ hbw7c).mono ?_
        rintro e wd ⟨rfl, hbd⟩
        go_wp2_with fail
        refine (HSI.out _ hbd).mono ?_
        rintro e we ⟨rfl, hbe⟩
        have hbce := below_step hbd hbe
        obtain ⟨_, ⟨y0, y1, y2, y3⟩, z0, z1, z2, z3⟩ := SK4.out we hbce
        go_wp2_with fail
        refine (HFX.out _ _ (HT15.out.grow hbce)).mono ?_
        rintro e wf ⟨vz, rfl, hvz, hbf⟩
        obtain ⟨Az, cz, rfl, _⟩ := hvz
        have hbcf := below_step hbce hbf
        clear y0 y1 y2 y3 z0 z1 z2 z3
        obtain ⟨_, ⟨y0, y1, y2, y3⟩, z0, z1, z2, z3⟩ := SK4.out wf hbcf
        go_wp2_with fail
        refine (c_EqualT X _ _ _ HXN.out (HT15.out.grow hbcf) (HTX.out.grow hbcf)).mono ?_
        rintro e wl ⟨rfl, hbl⟩
        go_wp2
        go_ret
        exact ⟨rfl, hb07.trans ((below_step hbw7c (below_step hbcf hbl)).mono hb07.size)⟩
end Go.Proofs.YtdbflfakocaapaaDoor
