/- The walk of tellaw2.TermOrder: it returns true. -/
import Derived.Test.YtdbflfakocaapaaDoorCons
import Derived.Test.YtdbflfakocaapaaDoorAny
import Derived.Test.YtdbflfakocaapaaDoorCompare
import Derived.Test.YtdbflfakocaapaaDoorLawValidate
import Derived.Test.YtdbflfakocaapaaDoorHeld
import Derived.Deep.RegionHeld3
namespace Go.Proofs.YtdbflfakocaapaaDoor
open Go.RowKit
attribute [local go_sem ↓] Go.wp_at_zero Go.wp_at_succ

theorem box_alloc3 (w : World) (u0 u1 u2 u3 v0 v1 v2 v3 x0 x1 x2 x3 : Value) (T : TypeId) : ((((w.alloc (.cells #[u0, u1, u2, u3] T)).alloc (.cells #[v0, v1, v2, v3] T)).alloc (.cells #[x0, x1, x2, x3] T)).cell? ⟨w.heap.size, 0, none⟩ = some (u0) ∧ (((w.alloc (.cells #[u0, u1, u2, u3] T)).alloc (.cells #[v0, v1, v2, v3] T)).alloc (.cells #[x0, x1, x2, x3] T)).cell? ⟨w.heap.size, 1, none⟩ = some (u1) ∧ (((w.alloc (.cells #[u0, u1, u2, u3] T)).alloc (.cells #[v0, v1, v2, v3] T)).alloc (.cells #[x0, x1, x2, x3] T)).cell? ⟨w.heap.size, 2, none⟩ = some (u2) ∧ (((w.alloc (.cells #[u0, u1, u2, u3] T)).alloc (.cells #[v0, v1, v2, v3] T)).alloc (.cells #[x0, x1, x2, x3] T)).cell? ⟨w.heap.size, 3, none⟩ = some (u3)) ∧ ((((w.alloc (.cells #[u0, u1, u2, u3] T)).alloc (.cells #[v0, v1, v2, v3] T)).alloc (.cells #[x0, x1, x2, x3] T)).cell? ⟨w.heap.size + 1, 0, none⟩ = some (v0) ∧ (((w.alloc (.cells #[u0, u1, u2, u3] T)).alloc (.cells #[v0, v1, v2, v3] T)).alloc (.cells #[x0, x1, x2, x3] T)).cell? ⟨w.heap.size + 1, 1, none⟩ = some (v1) ∧ (((w.alloc (.cells #[u0, u1, u2, u3] T)).alloc (.cells #[v0, v1, v2, v3] T)).alloc (.cells #[x0, x1, x2, x3] T)).cell? ⟨w.heap.size + 1, 2, none⟩ = some (v2) ∧ (((w.alloc (.cells #[u0, u1, u2, u3] T)).alloc (.cells #[v0, v1, v2, v3] T)).alloc (.cells #[x0, x1, x2, x3] T)).cell? ⟨w.heap.size + 1, 3, none⟩ = some (v3)) ∧ ((((w.alloc (.cells #[u0, u1, u2, u3] T)).alloc (.cells #[v0, v1, v2, v3] T)).alloc (.cells #[x0, x1, x2, x3] T)).cell? ⟨w.heap.size + 1 + 1, 0, none⟩ = some (x0) ∧ (((w.alloc (.cells #[u0, u1, u2, u3] T)).alloc (.cells #[v0, v1, v2, v3] T)).alloc (.cells #[x0, x1, x2, x3] T)).cell? ⟨w.heap.size + 1 + 1, 1, none⟩ = some (x1) ∧ (((w.alloc (.cells #[u0, u1, u2, u3] T)).alloc (.cells #[v0, v1, v2, v3] T)).alloc (.cells #[x0, x1, x2, x3] T)).cell? ⟨w.heap.size + 1 + 1, 2, none⟩ = some (x2) ∧ (((w.alloc (.cells #[u0, u1, u2, u3] T)).alloc (.cells #[v0, v1, v2, v3] T)).alloc (.cells #[x0, x1, x2, x3] T)).cell? ⟨w.heap.size + 1 + 1, 3, none⟩ = some (x3)) := by
  obtain ⟨h1, h2⟩ := box_alloc2 w u0 u1 u2 u3 v0 v1 v2 v3 T
  have h3 := box_alloc ((w.alloc (.cells #[u0, u1, u2, u3] T)).alloc (.cells #[v0, v1, v2, v3] T)) x0 x1 x2 x3 T
  have e : ((w.alloc (.cells #[u0, u1, u2, u3] T)).alloc (.cells #[v0, v1, v2, v3] T)).heap.size = w.heap.size + 1 + 1 := by simp
  rw [e] at h3
  exact ⟨(box_sk h1.1 h1.2.1 h1.2.2.1 h1.2.2.2 (by rw [e]; omega) _ (below_new _ _)).2, (box_sk h2.1 h2.2.1 h2.2.2.1 h2.2.2.2 (by rw [e]; omega) _ (below_new _ _)).2, h3⟩
theorem box_sk3 {wr : World} {b d e : Nat} {u0 u1 u2 u3 v0 v1 v2 v3 x0 x1 x2 x3 : Value} (h : wr.cell? ⟨b, 0, none⟩ = some (u0) ∧ wr.cell? ⟨b, 1, none⟩ = some (u1) ∧ wr.cell? ⟨b, 2, none⟩ = some (u2) ∧ wr.cell? ⟨b, 3, none⟩ = some (u3)) (k : wr.cell? ⟨d, 0, none⟩ = some (v0) ∧ wr.cell? ⟨d, 1, none⟩ = some (v1) ∧ wr.cell? ⟨d, 2, none⟩ = some (v2) ∧ wr.cell? ⟨d, 3, none⟩ = some (v3)) (m : wr.cell? ⟨e, 0, none⟩ = some (x0) ∧ wr.cell? ⟨e, 1, none⟩ = some (x1) ∧ wr.cell? ⟨e, 2, none⟩ = some (x2) ∧ wr.cell? ⟨e, 3, none⟩ = some (x3)) (hl : b < wr.heap.size) (hd : d < wr.heap.size) (he : e < wr.heap.size) :
    ∀ W : World, Below wr.heap.size wr W → Below wr.heap.size wr W ∧ (W.cell? ⟨b, 0, none⟩ = some (u0) ∧ W.cell? ⟨b, 1, none⟩ = some (u1) ∧ W.cell? ⟨b, 2, none⟩ = some (u2) ∧ W.cell? ⟨b, 3, none⟩ = some (u3)) ∧ (W.cell? ⟨d, 0, none⟩ = some (v0) ∧ W.cell? ⟨d, 1, none⟩ = some (v1) ∧ W.cell? ⟨d, 2, none⟩ = some (v2) ∧ W.cell? ⟨d, 3, none⟩ = some (v3)) ∧ W.cell? ⟨e, 0, none⟩ = some (x0) ∧ W.cell? ⟨e, 1, none⟩ = some (x1) ∧ W.cell? ⟨e, 2, none⟩ = some (x2) ∧ W.cell? ⟨e, 3, none⟩ = some (x3) := fun W hb =>
  ⟨hb, (box_sk h.1 h.2.1 h.2.2.1 h.2.2.2 hl W hb).2, (box_sk k.1 k.2.1 k.2.2.1 k.2.2.2 hd W hb).2, (box_sk m.1 m.2.1 m.2.2.1 m.2.2.2 he W hb).2⟩

set_option maxRecDepth 200000 in
set_option maxHeartbeats 4000000 in
theorem c_lawTermOrder (x1 x2 x3 : List Int) (v1 v2 v3 : Value) (w : World) (G : Nat) (hv1 : IsInts w w.heap.size x1 v1) (hv2 : IsInts w w.heap.size x2 v2) (hv3 : IsInts w w.heap.size x3 v3) (hx1 : ∀ x ∈ x1, inI x) (hx2 : ∀ x ∈ x2, inI x) (hx3 : ∀ x ∈ x3, inI x) (hn1 : x1.length ≤ 2 ^ 47) (hn2 : x2.length ≤ 2 ^ 47) (hn3 : x3.length ≤ 2 ^ 47) (hE : EnvR w G) (hA : EnvN 0 11 w G) (hG : G ≤ w.heap.size) :
    Calls Tryd.prog 7 #[v1, v2, v3] w fun e w' => e = .returned (.bool true) ∧ Below w.heap.size w w' := by
  have HN1 : Hid (∀ W : World, Below w.heap.size w W → Calls Tryd.prog 13 #[v1] W fun e w' => e = .returned (.pointer (some ⟨W.heap.size, 0, none⟩)) ∧ StreamOk w' W.heap.size ∧ Below W.heap.size W w' ∧ w'.heap.size = W.heap.size + 1) := Lib.hid (fun W hW => c_New x1 v1 W ((hv1.below hW (Nat.le_refl _)).more hW.size) hx1 hn1)
  have HN2 : Hid (∀ W : World, Below w.heap.size w W → Calls Tryd.prog 13 #[v2] W fun e w' => e = .returned (.pointer (some ⟨W.heap.size, 0, none⟩)) ∧ StreamOk w' W.heap.size ∧ Below W.heap.size W w' ∧ w'.heap.size = W.heap.size + 1) := Lib.hid (fun W hW => c_New x2 v2 W ((hv2.below hW (Nat.le_refl _)).more hW.size) hx2 hn2)
  have HN3 : Hid (∀ W : World, Below w.heap.size w W → Calls Tryd.prog 13 #[v3] W fun e w' => e = .returned (.pointer (some ⟨W.heap.size, 0, none⟩)) ∧ StreamOk w' W.heap.size ∧ Below W.heap.size W w' ∧ w'.heap.size = W.heap.size + 1) := Lib.hid (fun W hW => c_New x3 v3 W ((hv3.below hW (Nat.le_refl _)).more hW.size) hx3 hn3)
  obtain ⟨B1, d1, rfl, _⟩ := hv1
  obtain ⟨B2, d2, rfl, _⟩ := hv2
  obtain ⟨B3, d3, rfl, _⟩ := hv3
  have HE := Lib.hid hE
  have HA := Lib.hid hA
  clear hE hA hx1 hx2 hx3
  generalize x1.length = m1, x2.length = m2, x3.length = m3 at *
  go_enter Tryd.func7, Tryd.ntmps7
  go_wp2_with fail
  refine (HN1.out _ (Below.refl _ _)).mono ?_
  rintro e w1 ⟨rfl, hst, hbw1, hsw1⟩
  have HST := Lib.hid hst
  have hzw1 : Below w.heap.size w w1 := (Below.refl _ _ : Below w.heap.size w w).trans (hbw1.mono (Below.refl _ _ : Below w.heap.size w w).size)
  have HA1 : Hid (EnvN 0 11 w1 G) := Lib.hid (HA.out.keep fun b hb => hzw1.block b (by omega))
  have hlew1 := (Below.refl _ _ : Below w.heap.size w w).size
  clear hst
  go_wp2_with fail
  refine (c_AnyTerm 4 w1 w.heap.size G HST.out HA1.out (by omega) (by omega)).mono ?_
  rintro e w2 ⟨t1, u1, rfl, hty1, hok1, hsz1, _, hgw2⟩
  have hsw2 := hgw2.size
  have hbw2 : Below w.heap.size w w2 := hbw1.trans (below_of_grown hgw2 (Nat.le_refl _) (by omega))
  have hzw2 : Below w.heap.size w w2 := (Below.refl _ _ : Below w.heap.size w w).trans (hbw2.mono (Below.refl _ _ : Below w.heap.size w w).size)
  have HTY1 := Lib.hid hty1
  obtain ⟨A1, c1, rfl, _⟩ := hty1.args_
  have hszb1 : t1.size ≤ 2 ^ 60 := Nat.le_trans hsz1 (by decide)
  clear hty1 hok1 hgw2 HST HA1 hsz1
  go_wp2_with fail
  refine (HN2.out _ (hzw2)).mono ?_
  rintro e w3 ⟨rfl, hst, hbw3, hsw3⟩
  have HST := Lib.hid hst
  have hzw3 : Below w.heap.size w w3 := (hzw2 : Below w.heap.size w w2).trans (hbw3.mono (hzw2 : Below w.heap.size w w2).size)
  have HA1 : Hid (EnvN 0 11 w3 G) := Lib.hid (HA.out.keep fun b hb => hzw3.block b (by omega))
  have hlew3 := (hzw2 : Below w.heap.size w w2).size
  clear hst
  go_wp2_with fail
  refine (c_AnyTerm 4 w3 w2.heap.size G HST.out HA1.out (by omega) (by omega)).mono ?_
  rintro e w4 ⟨t2, u2, rfl, hty2, hok2, hsz2, _, hgw4⟩
  have hsw4 := hgw4.size
  have hbw4 : Below w2.heap.size w2 w4 := hbw3.trans (below_of_grown hgw4 (Nat.le_refl _) (by omega))
  have hzw4 : Below w.heap.size w w4 := (hzw2 : Below w.heap.size w w2).trans (hbw4.mono (hzw2 : Below w.heap.size w w2).size)
  have HTY2 := Lib.hid hty2
  obtain ⟨A2, c2, rfl, _⟩ := hty2.args_
  have hszb2 : t2.size ≤ 2 ^ 60 := Nat.le_trans hsz2 (by decide)
  clear hty2 hok2 hgw4 HST HA1 hsz2
  go_wp2_with fail
  refine (HN3.out _ (hzw4)).mono ?_
  rintro e w5 ⟨rfl, hst, hbw5, hsw5⟩
  have HST := Lib.hid hst
  have hzw5 : Below w.heap.size w w5 := (hzw4 : Below w.heap.size w w4).trans (hbw5.mono (hzw4 : Below w.heap.size w w4).size)
  have HA1 : Hid (EnvN 0 11 w5 G) := Lib.hid (HA.out.keep fun b hb => hzw5.block b (by omega))
  have hlew5 := (hzw4 : Below w.heap.size w w4).size
  clear hst
  go_wp2_with fail
  refine (c_AnyTerm 4 w5 w4.heap.size G HST.out HA1.out (by omega) (by omega)).mono ?_
  rintro e w6 ⟨t3, u3, rfl, hty3, hok3, hsz3, _, hgw6⟩
  have hsw6 := hgw6.size
  have hbw6 : Below w4.heap.size w4 w6 := hbw5.trans (below_of_grown hgw6 (Nat.le_refl _) (by omega))
  have hzw6 : Below w.heap.size w w6 := (hzw4 : Below w.heap.size w w4).trans (hbw6.mono (hzw4 : Below w.heap.size w w4).size)
  have HTY3 := Lib.hid hty3
  obtain ⟨A3, c3, rfl, _⟩ := hty3.args_
  have hszb3 : t3.size ≤ 2 ^ 60 := Nat.le_trans hsz3 (by decide)
  clear hty3 hok3 hgw6 HST HA1 hsz3
  have hb46 : Below w4.heap.size w4 w6 := hbw6
  have hb26 : Below w2.heap.size w2 w6 := hbw4.trans (hbw6.mono hbw4.size)
  have hs46 := hb46.size
  have hs26 := hb26.size
  have HT1 := Lib.hid (HTY1.out.below hb26 (Nat.le_refl _))
  have HT2 := Lib.hid (HTY2.out.below hb46 (Nat.le_refl _))
  have HT3 := HTY3
  have HAB : Hid (∀ W : World, Below w6.heap.size w6 W → Calls Tryd.prog 35 #[.agg #[.int .i64 t1.kind, .string t1.name, .int .i64 t1.index, .slice A1 t1.args.length c1], .agg #[.int .i64 t2.kind, .string t2.name, .int .i64 t2.index, .slice A2 t2.args.length c2]] W fun e w' => e = .returned (.int .i64 (t1.cmp t2)) ∧ Below W.heap.size W w') := Lib.hid (fun W hW => by exact c_Compare t1.size t1 t2 W _ _ _ _ _ _ (Nat.le_refl _) (HT1.out.below hW hs26) (HT2.out.below hW hs46) (Nat.le_trans hs26 hW.size) (Nat.le_trans hs46 hW.size) hszb1)
  have HBC : Hid (∀ W : World, Below w6.heap.size w6 W → Calls Tryd.prog 35 #[.agg #[.int .i64 t2.kind, .string t2.name, .int .i64 t2.index, .slice A2 t2.args.length c2], .agg #[.int .i64 t3.kind, .string t3.name, .int .i64 t3.index, .slice A3 t3.args.length c3]] W fun e w' => e = .returned (.int .i64 (t2.cmp t3)) ∧ Below W.heap.size W w') := Lib.hid (fun W hW => by exact c_Compare t2.size t2 t3 W _ _ _ _ _ _ (Nat.le_refl _) (HT2.out.below hW hs46) (HT3.out.below hW (Nat.le_refl _)) (Nat.le_trans hs46 hW.size) (Nat.le_trans (Nat.le_refl _) hW.size) hszb2)
  have HAC : Hid (∀ W : World, Below w6.heap.size w6 W → Calls Tryd.prog 35 #[.agg #[.int .i64 t1.kind, .string t1.name, .int .i64 t1.index, .slice A1 t1.args.length c1], .agg #[.int .i64 t3.kind, .string t3.name, .int .i64 t3.index, .slice A3 t3.args.length c3]] W fun e w' => e = .returned (.int .i64 (t1.cmp t3)) ∧ Below W.heap.size W w') := Lib.hid (fun W hW => by exact c_Compare t1.size t1 t3 W _ _ _ _ _ _ (Nat.le_refl _) (HT1.out.below hW hs26) (HT3.out.below hW (Nat.le_refl _)) (Nat.le_trans hs26 hW.size) (Nat.le_trans (Nat.le_refl _) hW.size) hszb1)
  have HTC : Hid (∀ W : World, Below w6.heap.size w6 W → Calls Tryd.prog 36 #[.agg #[.int .i64 t1.kind, .string t1.name, .int .i64 t1.index, .slice A1 t1.args.length c1], .agg #[.int .i64 t2.kind, .string t2.name, .int .i64 t2.index, .slice A2 t2.args.length c2]] W fun e w' => e = .returned (.int .i64 (t1.cmp t2)) ∧ Below W.heap.size W w') := Lib.hid (fun W hW => by exact c_TermCompare t1.size t1 t2 W _ _ _ _ _ _ (Nat.le_refl _) (HT1.out.below hW hs26) (HT2.out.below hW hs46) (Nat.le_trans hs26 hW.size) (Nat.le_trans hs46 hW.size) hszb1)
  have HBA : Hid (∀ W : World, Below w6.heap.size w6 W → Calls Tryd.prog 35 #[.agg #[.int .i64 t2.kind, .string t2.name, .int .i64 t2.index, .slice A2 t2.args.length c2], .agg #[.int .i64 t1.kind, .string t1.name, .int .i64 t1.index, .slice A1 t1.args.length c1]] W fun e w' => e = .returned (.int .i64 (-(t1.cmp t2))) ∧ Below W.heap.size W w') := Lib.hid (fun W hW => by rw [← Ty.cmp_neg]; exact c_Compare t2.size t2 t1 W _ _ _ _ _ _ (Nat.le_refl _) (HT2.out.below hW hs46) (HT1.out.below hW hs26) (Nat.le_trans hs46 hW.size) (Nat.le_trans hs26 hW.size) hszb2)
  have HAA : Hid (∀ W : World, Below w6.heap.size w6 W → Calls Tryd.prog 35 #[.agg #[.int .i64 t1.kind, .string t1.name, .int .i64 t1.index, .slice A1 t1.args.length c1], .agg #[.int .i64 t1.kind, .string t1.name, .int .i64 t1.index, .slice A1 t1.args.length c1]] W fun e w' => e = .returned (.int .i64 0) ∧ Below W.heap.size W w') := Lib.hid (fun W hW => by rw [← Ty.cmp_self t1]; exact c_Compare t1.size t1 t1 W _ _ _ _ _ _ (Nat.le_refl _) (HT1.out.below hW hs26) (HT1.out.below hW hs26) (Nat.le_trans hs26 hW.size) (Nat.le_trans hs26 hW.size) hszb1)
  have HEQ : Hid (∀ W : World, Below w6.heap.size w6 W → Calls Tryd.prog 37 #[.agg #[.int .i64 t1.kind, .string t1.name, .int .i64 t1.index, .slice A1 t1.args.length c1], .agg #[.int .i64 t2.kind, .string t2.name, .int .i64 t2.index, .slice A2 t2.args.length c2]] W fun e w' => e = .returned (.bool (t1.cmp t2 == 0)) ∧ Below W.heap.size W w') := Lib.hid (fun W hW => by exact c_Equal t1 t2 W _ _ _ _ _ _ (HT1.out.below hW hs26) (HT2.out.below hW hs46) (Nat.le_trans hs26 hW.size) (Nat.le_trans hs46 hW.size) hszb1)
  have HCK : Hid (∀ W : World, Below w6.heap.size w6 W → Calls Tryd.prog 14 #[] W fun e w' => e = .returned (.bool true) ∧ Below W.heap.size W w') := Lib.hid (fun W hW => c_check W G ((HE.out.below hzw6 hG).below hW (by have := hzw6.size; omega)) (by have := hW.size; have := hzw6.size; omega))
  have HX := Lib.hid (Ty.cmp_in t1 t2)
  have HY := Lib.hid (Ty.cmp_in t2 t3)
  have HO := Lib.hid (Ty.order_law t1 t2 t3)
  clear HTY1 HTY2 HTY3 HT1 HT2 HT3 HN1 HN2 HN3
  generalize t1.cmp t2 = x, t2.cmp t3 = y, t1.cmp t3 = z at *
  generalize t1.kind = k1, t1.name = n1, t1.index = i1, t1.args.length = l1 at *
  generalize t2.kind = k2, t2.name = n2, t2.index = i2, t2.args.length = l2 at *
  generalize t3.kind = k3, t3.name = n3, t3.index = i3, t3.args.length = l3 at *
  have hx0 : Hid (∀ W : World, W = (((w6.alloc (.cells #[.int .i64 k1, .string n1, .int .i64 i1, .slice A1 l1 c1] 25)).alloc (.cells #[.int .i64 k2, .string n2, .int .i64 i2, .slice A2 l2 c2] 25)).alloc (.cells #[.int .i64 k3, .string n3, .int .i64 i3, .slice A3 l3 c3] 25)) → (W.cell? ⟨w6.heap.size, 0, none⟩ = some (.int .i64 k1) ∧ W.cell? ⟨w6.heap.size, 1, none⟩ = some (.string n1) ∧ W.cell? ⟨w6.heap.size, 2, none⟩ = some (.int .i64 i1) ∧ W.cell? ⟨w6.heap.size, 3, none⟩ = some (.slice A1 l1 c1)) ∧ (W.cell? ⟨w6.heap.size + 1, 0, none⟩ = some (.int .i64 k2) ∧ W.cell? ⟨w6.heap.size + 1, 1, none⟩ = some (.string n2) ∧ W.cell? ⟨w6.heap.size + 1, 2, none⟩ = some (.int .i64 i2) ∧ W.cell? ⟨w6.heap.size + 1, 3, none⟩ = some (.slice A2 l2 c2)) ∧ (W.cell? ⟨w6.heap.size + 1 + 1, 0, none⟩ = some (.int .i64 k3) ∧ W.cell? ⟨w6.heap.size + 1 + 1, 1, none⟩ = some (.string n3) ∧ W.cell? ⟨w6.heap.size + 1 + 1, 2, none⟩ = some (.int .i64 i3) ∧ W.cell? ⟨w6.heap.size + 1 + 1, 3, none⟩ = some (.slice A3 l3 c3)) ∧ Below w6.heap.size w6 W ∧ W.heap.size = w6.heap.size + 1 + 1 + 1) := Lib.hid (fun W hW => by
    subst hW
    obtain ⟨h1, h2, h3⟩ := box_alloc3 w6 (.int .i64 k1) (.string n1) (.int .i64 i1) (.slice A1 l1 c1) (.int .i64 k2) (.string n2) (.int .i64 i2) (.slice A2 l2 c2) (.int .i64 k3) (.string n3) (.int .i64 i3) (.slice A3 l3 c3) 25
    exact ⟨h1, h2, h3, below_step (below_step (below_new _ _) (below_new _ _)) (below_new _ _), by simp⟩)
  go_wp2
  generalize hW : ((w6.alloc _).alloc _).alloc _ = W
  obtain ⟨hb1, hb2, hb3, hbW, hlW⟩ := hx0.out W hW.symm
  clear hx0 hW
  have SK := Lib.hid (box_sk3 hb1 hb2 hb3 (by omega) (by omega) (by omega))
  clear hb1 hb2 hb3
  go_region_held3 (fun W' : World => Below W.heap.size W W' ∧ (W'.cell? ⟨w6.heap.size, 0, none⟩ = some (.int .i64 k1) ∧ W'.cell? ⟨w6.heap.size, 1, none⟩ = some (.string n1) ∧ W'.cell? ⟨w6.heap.size, 2, none⟩ = some (.int .i64 i1) ∧ W'.cell? ⟨w6.heap.size, 3, none⟩ = some (.slice A1 l1 c1)) ∧ (W'.cell? ⟨w6.heap.size + 1, 0, none⟩ = some (.int .i64 k2) ∧ W'.cell? ⟨w6.heap.size + 1, 1, none⟩ = some (.string n2) ∧ W'.cell? ⟨w6.heap.size + 1, 2, none⟩ = some (.int .i64 i2) ∧ W'.cell? ⟨w6.heap.size + 1, 3, none⟩ = some (.slice A2 l2 c2)) ∧ (W'.cell? ⟨w6.heap.size + 1 + 1, 0, none⟩ = some (.int .i64 k3) ∧ W'.cell? ⟨w6.heap.size + 1 + 1, 1, none⟩ = some (.string n3) ∧ W'.cell? ⟨w6.heap.size + 1 + 1, 2, none⟩ = some (.int .i64 i3) ∧ W'.cell? ⟨w6.heap.size + 1 + 1, 3, none⟩ = some (.slice A3 l3 c3)))
    (first | exact SK.out _ (below_drew _) | exact SK.out _ (below_step (And.left (by assumption)) hbn))
    (first
    | (go_at_call_of 35 (Value.agg #[.int .i64 k1, .string n1, .int .i64 i1, .slice A1 l1 c1]); go_at_call_of 35 (Value.agg #[.int .i64 k2, .string n2, .int .i64 i2, .slice A2 l2 c2]); refine (HAB.out _ ?hbel).mono ?_; (case hbel => exact below_step hbW (And.left (by assumption))); rintro e w7 ⟨rfl, hb7⟩; have hbn := hb7)
    | (go_at_call_of 35 (Value.agg #[.int .i64 k2, .string n2, .int .i64 i2, .slice A2 l2 c2]); go_at_call_of 35 (Value.agg #[.int .i64 k3, .string n3, .int .i64 i3, .slice A3 l3 c3]); refine (HBC.out _ ?hbel).mono ?_; (case hbel => exact below_step hbW (And.left (by assumption))); rintro e w8 ⟨rfl, hb8⟩; have hbn := hb8)
    | (go_at_call_of 35 (Value.agg #[.int .i64 k1, .string n1, .int .i64 i1, .slice A1 l1 c1]); go_at_call_of 35 (Value.agg #[.int .i64 k3, .string n3, .int .i64 i3, .slice A3 l3 c3]); refine (HAC.out _ ?hbel).mono ?_; (case hbel => exact below_step hbW (And.left (by assumption))); rintro e w9 ⟨rfl, hb9⟩; have hbn := hb9))
  have hb9' : Below W.heap.size W w9 := And.left (by assumption)
  clear hb7 hb8 hb9
  obtain ⟨hx0, hx1⟩ := HX.out
  have hneg : IntKind.i64.wrap (-x) = -x := IntWalk.i64_in _ (by omega)
  obtain ⟨_, ⟨a0, a1, a2, a3⟩, b0, b1, b2, b3⟩ := And.intro (SK.out _ hb9').1 (And.intro (SK.out _ hb9').2.1 (SK.out _ hb9').2.2.1)
  go_wp2_with fail
  refine (HCK.out _ (below_step hbW hb9')).mono ?_
  rintro e w10 ⟨rfl, hb10⟩
  have hb10' := below_step hb9' hb10
  clear a0 a1 a2 a3 b0 b1 b2 b3 hb10
  obtain ⟨_, ⟨a0, a1, a2, a3⟩, b0, b1, b2, b3⟩ := And.intro (SK.out _ hb10').1 (And.intro (SK.out _ hb10').2.1 (SK.out _ hb10').2.2.1)
  go_wp2_with fail
  refine (HTC.out _ (below_step hbW hb10')).mono ?_
  rintro e w11 ⟨rfl, hb11⟩
  have hb11' := below_step hb10' hb11
  clear a0 a1 a2 a3 b0 b1 b2 b3 hb11
  obtain ⟨_, ⟨a0, a1, a2, a3⟩, b0, b1, b2, b3⟩ := And.intro (SK.out _ hb11').1 (And.intro (SK.out _ hb11').2.1 (SK.out _ hb11').2.2.1)
  go_wp2_with fail
  refine (HBA.out _ (below_step hbW hb11')).mono ?_
  rintro e w12 ⟨rfl, hb12⟩
  have hb12' := below_step hb11' hb12
  clear a0 a1 a2 a3 b0 b1 b2 b3 hb12
  obtain ⟨_, ⟨a0, a1, a2, a3⟩, b0, b1, b2, b3⟩ := And.intro (SK.out _ hb12').1 (And.intro (SK.out _ hb12').2.1 (SK.out _ hb12').2.2.1)
  go_wp2_with fail
  refine (HAA.out _ (below_step hbW hb12')).mono ?_
  rintro e w13 ⟨rfl, hb13⟩
  have hb13' := below_step hb12' hb13
  clear a0 a1 a2 a3 b0 b1 b2 b3 hb13
  obtain ⟨_, ⟨a0, a1, a2, a3⟩, b0, b1, b2, b3⟩ := And.intro (SK.out _ hb13').1 (And.intro (SK.out _ hb13').2.1 (SK.out _ hb13').2.2.1)
  go_wp2_with fail
  refine (HEQ.out _ (below_step hbW hb13')).mono ?_
  rintro e w14 ⟨rfl, hb14⟩
  have hb14' := below_step hb13' hb14
  clear a0 a1 a2 a3 b0 b1 b2 b3 hb14
  have hfin : Below w.heap.size w w14 := hzw6.trans ((below_step hbW hb14').mono hzw6.size)
  have HF := Lib.hid hfin
  clear hfin hneg
  obtain ⟨hy0, hy1⟩ := HY.out
  obtain ⟨ho1, ho2⟩ := HO.out
  have hx : x = -1 ∨ x = 0 ∨ x = 1 := by omega
  have hy : y = -1 ∨ y = 0 ∨ y = 1 := by omega
  rcases hx with rfl | rfl | rfl <;> rcases hy with rfl | rfl | rfl
  all_goals
    (try have hz1 : z ≤ 0 := by omega)
    (try have hz2 : 0 ≤ z := by omega)
    clear ho1 ho2 hx0 hx1 hy0 hy1
    go_wp2
    go_ret
    exact ⟨rfl, HF.out⟩
end Go.Proofs.YtdbflfakocaapaaDoor
