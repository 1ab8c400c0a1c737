/- The walk of tellaw27.RegCodes: it returns true. -/
import Derived.Test.YtdjldmpfginkdaaGreatDoorGHead
import Derived.Test.YtdjldmpfginkdaaGreatDoorGUses
import Derived.Test.YtdjldmpfginkdaaGreatDoorSameR
import Derived.Test.YtdjldmpfginkdaaGreatDoorGSane
import Derived.Test.YtdjldmpfginkdaaGreatDoorGOrd
import Derived.Lib.SmallJoins
import Derived.Deep.RegionHeld3
import Derived.Deep.CutRange
namespace Go.Proofs.YtdjldmpfginkdaaGreatDoor
open Go.RowKit
attribute [local go_sem ↓] Go.wp_at_zero Go.wp_at_succ

theorem same_of (q : Rc) (cls : Value) (IA : Option Addr) (ic : Nat) (DA : Option Addr) (dc : Nat) (w : World) (at_ : Int) (G : Nat) (hr : RcAt w w.heap.size q cls IA ic) (hE : EnvS w G) (hR : EnvR w G) (hG : G ≤ w.heap.size) (hal : ∀ x ∈ q.instrs, x.args.length ≤ 2 ^ 20) (hnl : q.instrs.length ≤ 2 ^ 40) :
    ∀ W : World, Below w.heap.size w W → Calls Tryz.prog 18 #[.agg #[.int .i64 q.params, cls, .slice IA q.instrs.length ic, .slice DA q.edits dc], .int .i64 at_] W fun e w' => e = .returned (.bool true) ∧ Below W.heap.size W w' :=
  fun W hW => c_sameR q cls IA ic DA dc at_ W _ G (hr.below hW (Nat.le_refl _)) hW.size (hE.below hW hG) (hR.below hW hG) (Nat.le_trans hG hW.size) hal hnl
theorem own_one {w : World} {base b : Nat} {e : TypeId} {u : Value} (h : w.heap[b]? = some (.cells #[u] e (0, 0))) (hb : base ≤ b) : w.ownsRow base e 1 (.slice (some ⟨b, 0, none⟩) 1 1) 1 [u] :=
  ⟨by simp, .inr ⟨b, 1, #[u], rfl, hb, h, Nat.le_refl _, by decide, by simp, by simp⟩⟩
theorem own_free {w : World} {base size g n cap : Nat} {e : TypeId} {xs : List Value} (h : w.ownsRow base e size (.slice (some ⟨g, 0, none⟩) n cap) n xs) (i : Nat) : w.frozen? ⟨g, i, none⟩ = false := by
  rcases h.2 with ⟨hv, _⟩ | ⟨g', cap', cur, hv, _, hh, _⟩
  · simp at hv
  · simp only [Value.slice.injEq, Option.some.injEq, Addr.mk.injEq, and_true, true_and] at hv
    obtain ⟨rfl, rfl⟩ := hv
    simp [World.frozen?, hh]
set_option maxRecDepth 100000 in
set_option maxHeartbeats 16000000 in
theorem c_lawRegCodes (xs : List Int) (v0 : Value) (q : Rc) (cls : Value) (IA : Option Addr) (ic : Nat) (DA : Option Addr) (dc : Nat) (at_ wh fd vv : Int) (w : World) (G : Nat)
    (hv : IsInts w w.heap.size xs v0) (hx : ∀ x ∈ xs, inI x) (hn : xs.length ≤ 2 ^ 47) (hqc : IsInts w w.heap.size q.classes cls) (hqi : IsInsV w w.heap.size q.instrs (.slice IA q.instrs.length ic)) (hqo : ∀ x ∈ q.instrs, x.ty.ok)
    (hR : EnvR w G) (hE : EnvS w G) (hG : G ≤ w.heap.size) :
    Calls Tryz.prog 5 #[v0, .agg #[.int .i64 q.params, cls, .slice IA q.instrs.length ic, .slice DA q.edits dc], .int .i64 at_, .int .i64 wh, .int .i64 fd, .int .i64 vv] w fun e w' => e = .returned (.bool true) ∧ Below w.heap.size w w' := by
  have HN0 := Lib.hid (fun (W : World) (hW : Below w.heap.size w W) => c_TNew xs v0 W ((hv.below hW (Nat.le_refl _)).more hW.size) hx hn)
  have HLG := Lib.hid (fun (W : World) (hW : Below w.heap.size w W) => c_large q cls IA ic DA dc W w.heap.size (hqc.below hW (Nat.le_refl _)) (hqi.below hW (Nat.le_refl _)) hW.size)
  have HSQ : Hid ((q.instrs.length ≤ 150 ∧ q.classes.length ≤ 150 ∧ ∀ x ∈ q.instrs, SmallI x) → ∀ W : World, Below w.heap.size w W → Calls Tryz.prog 18 #[.agg #[.int .i64 q.params, cls, .slice IA q.instrs.length ic, .slice DA q.edits dc], .int .i64 at_] W fun e w' => e = .returned (.bool true) ∧ Below W.heap.size W w') := Lib.hid (fun h =>
    same_of q cls IA ic DA dc w at_ G ⟨hqc, hqi.insl, fun x hx => ⟨hqo x hx, by have := (h.2.2 x hx).1; omega, by have := (h.2.2 x hx).2.1; omega, by have := (h.2.2 x hx).2.2; omega⟩⟩ hE hR hG (fun x hx => by have := (h.2.2 x hx).2.2; omega) (by have := h.1; omega))
  obtain ⟨Av, cv, rfl, _⟩ := hv
  obtain ⟨QA, qc, rfl, _⟩ := hqc
  have HE := Lib.hid hE
  have HR := Lib.hid hR
  clear hE hR hx hn hqi hqo
  generalize xs.length = nx at *
  generalize hqn : q.instrs.length = qn at *
  generalize hqm : q.classes.length = qm at *
  have HQN := Lib.hid hqn
  have HQM := Lib.hid hqm
  clear hqn hqm
  have HBX : Hid (Box4 (w.alloc (.cells #[.int .i64 q.params, .slice QA qm qc, .slice IA qn ic, .slice DA q.edits dc] 26)) w.heap.size (.int .i64 q.params) (.slice QA qm qc) (.slice IA qn ic) (.slice DA q.edits dc)) := Lib.hid (blk_new _ _)
  go_enter Tryz.func5, Tryz.ntmps5
  go_wp2_with fail
  have HBA := Lib.hid (below_new w (.cells #[.int .i64 q.params, .slice QA qm qc, .slice IA qn ic, .slice DA q.edits dc] 26))
  generalize w.alloc _ = wa at *
  refine (HLG.out wa HBA.out).mono ?_
  rintro e w1 ⟨⟨b, rfl, hbf⟩, hb1⟩
  have HB1 := Lib.hid (below_step HBA.out hb1)
  cases b
  case true =>
    go_wp2
    go_ret
    exact ⟨rfl, HB1.out⟩
  case false =>
  have HSA := Lib.hid (HSQ.out (by rw [← HQN.out, ← HQM.out]; exact hbf rfl))
  have HBX1 := Lib.hid (HBX.out.below hb1)
  clear HLG HSQ hbf hb1 HBX HBA
  go_wp2_with fail
  refine (HN0.out w1 HB1.out).mono ?_
  rintro e w2 ⟨rfl, hst2, hb2, hs2⟩
  have HST2 := Lib.hid hst2
  clear hst2 HN0
  go_wp2_with fail
  refine (c_TGen3 w1.heap.size w2 HST2.out).mono ?_
  rintro e w3 ⟨r, cls, RA, rc, rfl, hrc, hr0, hr1, hrcl, hre, hg3, hral⟩
  have hb3 : Below w1.heap.size w1 w3 := hb2.trans (below_of_grownT hg3 (Nat.le_refl _) (by omega))
  have HRC := Lib.hid hrc
  have HAL := Lib.hid hral
  have HBW3 := Lib.hid (below_step HB1.out hb3)
  have HBX3 := Lib.hid (HBX1.out.below hb3)
  obtain ⟨CA, cc, rfl, _⟩ := hrc.cls
  have hml : r.classes.length = 7 := by rw [hrcl]; rfl
  have HE3 := Lib.hid (HE.out.below HBW3.out hG)
  have HR3 := Lib.hid (HR.out.below HBW3.out hG)
  have hG3 : G ≤ w3.heap.size := Nat.le_trans hG HBW3.out.size
  have hsw := HBW3.out.size
  clear hrc hrcl hb2 hb3 hg3 hs2 HST2 HE HR hre hral HBX1 HB1
  rw [hml]
  have HML := Lib.hid hml
  clear hml
  have HSR : Hid (∀ W : World, Below w3.heap.size w3 W → Calls Tryz.prog 18 #[.agg #[.int .i64 r.params, .slice CA 7 cc, .slice RA r.instrs.length rc, .slice none r.edits 0], .int .i64 at_] W fun e w' => e = .returned (.bool true) ∧ Below W.heap.size W w') := Lib.hid (fun W hW => by
    have := same_of r _ RA rc none 0 w3 at_ G HRC.out HE3.out HR3.out hG3 (fun x hx => by have := HAL.out x hx; omega) (by omega) W hW
    rw [HML.out] at this
    exact this)
  have HSN : Hid (∀ W : World, Below w3.heap.size w3 W → Calls Tryz.prog 11 #[] W fun e w' => e = .returned (.bool true) ∧ Below W.heap.size W w') := Lib.hid (fun W hW => c_sane W G (HE3.out.below hW hG3) (HR3.out.below hW hG3) (Nat.le_trans hG3 hW.size))
  go_upto_region 5 with fail
  have HBD := Lib.hid (tbx_start (p := .int .i64 r.params) (c := .slice CA 7 cc) (i := .slice RA r.instrs.length rc) (d := .slice none r.edits 0) HBX3.out HBW3.out)
  have HBB := Lib.hid (below_step (below_new w3 (.cells #[.int .i64 r.params, .slice CA 7 cc, .slice RA r.instrs.length rc, .slice none r.edits 0] 26)) (below_new _ (.cells #[.int .i64 r.params, .slice CA 7 cc, .slice RA r.instrs.length rc, .slice none r.edits 0] 26)))
  generalize hW4 : (w3.alloc _).alloc _ = w4 at *
  have HS4 : Hid (w4.heap.size = w3.heap.size + 2) := Lib.hid (by rw [← hW4]; simp)
  have hl3 : w3.heap.size < w4.heap.size := by rw [HS4.out]; omega
  have hl4 : w3.heap.size + 1 < w4.heap.size := by rw [HS4.out]; omega
  clear hW4 HBX3
  obtain ⟨ys, hrd, hcx, hone⟩ := cells15_of HRC.out.ins
  have HRD := Lib.hid (fun (W : World) (hW : Below w4.heap.size w4 W) => hrd.below (below_step HBB.out hW) (Nat.le_refl _))
  have HCX0 := Lib.hid hcx
  have HONE := Lib.hid hone
  clear hrd hcx hone
  have HOK := Lib.hid HRC.out.ok
  generalize hnr : r.instrs.length = n at *
  have HN := Lib.hid hnr
  clear hnr
  obtain ⟨i0, hi0, hz0, hz1, hz2⟩ := info_parts info_instr
  have HI : Hid (i0.zero = some (.agg #[.int .i64 0, .int .i64 0, .int .i64 0, .int .i64 0, .int .i64 0, .string ⟨#[]⟩, .slice none 0 0, .int .i64 0, .string ⟨#[]⟩, .int .i64 0, .slice none 0 0, .int .i64 0, .int .i64 0, .string ⟨#[]⟩, .slice none 0 0]) ∧ i0.size = 15 ∧ i0.bytes = 192) := Lib.hid ⟨hz0, hz1, hz2⟩
  have Hi0 := Lib.hid hi0
  clear hi0 hz0 hz1 hz2
  obtain ⟨⟨z0, z1, z2, z3⟩, ⟨a0, a1, a2, a3⟩, ⟨b0, b1, b2, b3⟩⟩ := HBD.out.cells
  go_upto_region 6 with (first
    | (at_builtin; refine wpList_append_rd _ rfl (.tmp 22) (.tmp 24) 23 rfl w4.heap.size 38 i0 (.agg #[.int .i64 0, .int .i64 0, .int .i64 0, .int .i64 0, .int .i64 0, .string ⟨#[]⟩, .slice none 0 0, .int .i64 0, .string ⟨#[]⟩, .int .i64 0, .slice none 0 0, .int .i64 0, .int .i64 0, .string ⟨#[]⟩, .slice none 0 0]) 15 192 Tryz.underlying23 Hi0.out HI.out.1 HI.out.2.1 HI.out.2.2 rfl (by omega) (.slice (some ⟨w4.heap.size, 0, none⟩) 0 0) 0 [] rfl (own_empty (blk_new _ _) (Nat.le_refl _)) w3.heap.size RA n rc ys rfl (HRD.out _ (below_new _ _)) HONE.out (by omega) (by simp) ?_
       intro v6 w6 hown6 hg6 hat6
       rw [Nat.zero_add, List.nil_append] at hown6
       obtain ⟨g6, c6, rfl⟩ := Joins.ownsRow_form hown6 hr0
       have hb6 : Below w4.heap.size w4 w6 := (below_new w4 _).grown hg6 (by simp) (fun k e => by cases e; exact Nat.le_refl _)
       have HBD6 := Lib.hid (HBD.out.step hb6)
       have HO6 := Lib.hid hown6
       have HB6 := Lib.hid hb6
       have fb := HBD6.out.bad.free
       obtain ⟨⟨y0, y1, y2, y3⟩, ⟨d0, d1, d2, d3⟩, ⟨e0, e1, e2, e3⟩⟩ := HBD6.out.cells
       clear hown6 hg6 hat6 hb6))
  have HBD7 := Lib.hid (HBD6.out.setB (v := .slice (some ⟨g6, 0, none⟩) n c6))
  have HO7 := Lib.hid (ownsRow_setCell_below HO6.out (a := ⟨w3.heap.size + 1, 2, none⟩) (by have := HS4.out; show w3.heap.size + 1 < w4.heap.size; omega) (.slice (some ⟨g6, 0, none⟩) n c6))
  have HCX7 : Hid (Cells15 (w6.setCell ⟨w3.heap.size + 1, 2, none⟩ (.slice (some ⟨g6, 0, none⟩) n c6)) w3.heap.size r.instrs ys) := Lib.hid (HCX0.out.keep (fun b hb => (Below.heap_setCell _ _ _ _ (by show b ≠ w3.heap.size + 1; omega)).trans ((below_step HBB.out HB6.out).block b hb)) (Nat.le_refl _))
  have HB7 := Lib.hid (below_set (below_step HBB.out HB6.out) (by omega : w3.heap.size ≤ w3.heap.size + 1) 2 (.slice (some ⟨g6, 0, none⟩) n c6))
  have hB0g : w3.heap.size ≤ g6 := by have := own_ge HO6.out g6 rfl; have := HS4.out; omega
  have hbg : w3.heap.size + 1 < g6 := by have := own_ge HO6.out g6 rfl; have := HS4.out; omega
  generalize hW7 : w6.setCell _ _ = w7 at *
  clear hW7 z0 z1 z2 z3 a0 a1 a2 a3 b0 b1 b2 b3 y0 y1 y2 y3 d0 d1 d2 d3 e0 e1 e2 e3 fb HBD6 HO6 HB6 HBD HCX0
  have hn1 : IntKind.i64.wrap ((n : Int) - 1) = (n : Int) - 1 := IntWalk.i64_in _ (by omega)
  go_wp2
  obtain ⟨_, _, ⟨b0, b1, b2, b3⟩⟩ := HBD7.out.cells
  refine wp_region_ord (fun W' : World => Below w7.heap.size w7 W' ∧ (W'.cell? ⟨w3.heap.size + 1, 0, none⟩ = some (.int .i64 r.params) ∧ W'.cell? ⟨w3.heap.size + 1, 1, none⟩ = some (.slice CA 7 cc) ∧ W'.cell? ⟨w3.heap.size + 1, 2, none⟩ = some (.slice (some ⟨g6, 0, none⟩) n c6) ∧ W'.cell? ⟨w3.heap.size + 1, 3, none⟩ = some (.slice none r.edits 0))) 9 [(0, true), (1, true), (2, true), (3, true), (4, true), (5, true), (6, true), (7, false), (8, true)] (by kernel_rfl) (by kernel_rfl) (⟨below_drew _, b0, b1, b2, b3⟩) (fun hHeld => ?_)
  simp only [pickOps, List.getElem?_cons_succ, List.getElem?_cons_zero, List.drop_succ_cons, List.drop_zero]
  iterate 7 (refine wpOrd_take (v := ?_) (fun _ _ _ h => h) (Or.inl ⟨by rfl, ?_⟩) (by assumption) ?_; rotate_left; (focus (intro w hSw; (try dsimp only at hSw); go_simp; (try with_reducible rfl))); (try simp only [Act.put, List.setIfInBounds_toArray, List.set_cons_zero, List.set_cons_succ]))
  refine wpOrd_do (fun K hK => ?_)
  go_simp
  go_at_call 8
  refine (c_Within wh 0 ((n : Int) - 1) _ (by omega) (by omega) (by omega)).mono ?_
  rintro e wq ⟨yk, rfl, hk0, hk1, rfl⟩
  obtain ⟨k, rfl⟩ := Int.eq_ofNat_of_zero_le hk0
  have hkn : k < n := by omega
  have hk2 : (k : Int) < (n : Int) := by omega
  refine hK.out _ _ (⟨below_drew _, b0, b1, b2, b3⟩) (fun hHeld => ?_)
  clear hK K
  (try simp only [Act.put, List.setIfInBounds_toArray, List.set_cons_zero, List.set_cons_succ])
  iterate 1 (refine wpOrd_take (v := ?_) (fun _ _ _ h => h) (Or.inl ⟨by rfl, ?_⟩) (by assumption) ?_; rotate_left; (focus (intro w hSw; (try dsimp only at hSw); go_simp; (try with_reducible rfl))); (try simp only [Act.put, List.setIfInBounds_toArray, List.set_cons_zero, List.set_cons_succ]))
  refine wpOrd_end ?_
  have HBD8 := Lib.hid (HBD7.out.step (below_drew _))
  have HO8 : Hid (w7.drew.ownsRow w4.heap.size 38 15 (.slice (some ⟨g6, 0, none⟩) n c6) n ys) := Lib.hid HO7.out
  have HCX8 : Hid (Cells15 w7.drew w3.heap.size r.instrs ys) := Lib.hid (HCX7.out.keep (fun _ _ => rfl) (Nat.le_refl _))
  have HB8 := Lib.hid (below_step HB7.out (below_drew _))
  clear HBD7 HO7 HCX7 HB7 b0 b1 b2 b3
  generalize w7.drew = w8 at *
  have hkl : k < r.instrs.length := by rw [HN.out]; exact hkn
  obtain ⟨XA, xc, XT, xt, XE, xe, hcell, hpt⟩ := HCX8.out.2 k hkl
  have HPT := Lib.hid hpt
  have hkc : ∀ i, i < 15 → w8.cell? ⟨g6, k * 15 + i, none⟩ = (insC r.instrs[k] XA xc XT xt XE xe)[i]? := fun i hi => (HO8.out.cellAt (k * 15 + i) (by omega)).trans (hcell i hi)
  have e0 : w8.cell? ⟨g6, k * 15, none⟩ = some (.int .i64 r.instrs[k].op) := hkc 0 (by decide)
  have e1 : w8.cell? ⟨g6, k * 15 + 1, none⟩ = some (.int .i64 r.instrs[k].dst) := hkc 1 (by decide)
  have e2 : w8.cell? ⟨g6, k * 15 + 2, none⟩ = some (.int .i64 r.instrs[k].a) := hkc 2 (by decide)
  have e3 : w8.cell? ⟨g6, k * 15 + 3, none⟩ = some (.int .i64 r.instrs[k].b) := hkc 3 (by decide)
  have e4 : w8.cell? ⟨g6, k * 15 + 4, none⟩ = some (.int .i64 r.instrs[k].imm) := hkc 4 (by decide)
  have e5 : w8.cell? ⟨g6, k * 15 + 5, none⟩ = some (.string r.instrs[k].name) := hkc 5 (by decide)
  have e6 : w8.cell? ⟨g6, k * 15 + 6, none⟩ = some (.slice XA r.instrs[k].args.length xc) := hkc 6 (by decide)
  have hfr := own_free HO8.out
  have hgl : g6 < w8.heap.size := (HO8.out.lt g6 rfl).2
  clear hcell hpt hkc
  go_wp2_with fail
  refine (c_Within fd 0 6 w8 (by omega) (by omega) (by omega)).mono ?_
  rintro e wz ⟨y, rfl, hy0, hy1, hwz⟩
  have hwz2 := hwz.symm
  subst hwz2
  clear hwz
  go_upto_block 0 with fail
  go_cut [] from 38 to 83 (fun wx => Hid (Tbx w w3.heap.size (w3.heap.size + 1) (.int .i64 q.params) (.slice QA qm qc) (.slice IA qn ic) (.slice DA q.edits dc) (.int .i64 r.params) (.slice CA 7 cc) (.slice RA n rc) (.slice none r.edits 0) (.slice (some ⟨g6, 0, none⟩) n c6) wx) ∧ Hid (∃ l', Spt wx g6 n c6 l') ∧ Hid (Below w3.heap.size w3 wx))
  case first =>
    have hy7 : y = 0 ∨ y = 1 ∨ y = 2 ∨ y = 3 ∨ y = 4 ∨ y = 5 ∨ y = 6 := by omega
    clear hy0 hy1
    rcases hy7 with rfl | rfl | rfl | rfl | rfl | rfl | rfl
    · skip
      go_wp2
      go_meet
      generalize hWW : World.setCell _ _ _ = ww
      exact ⟨Lib.hid (by rw [← hWW]; exact HBD8.out.set hbg _ _), Lib.hid ⟨_, spt_put (W := ww) HCX8.out HO8.out HN.out hB0g hkl HOK.out HAL.out 1 (.int .i64 vv) ({ r.instrs[k] with dst := vv }) (by decide) rfl rfl rfl hWW.symm (fun _ _ _ _ _ _ => rfl)⟩, Lib.hid (by rw [← hWW]; exact below_set HB8.out hB0g _ _)⟩
    · skip
      go_wp2
      go_meet
      generalize hWW : World.setCell _ _ _ = ww
      exact ⟨Lib.hid (by rw [← hWW]; exact HBD8.out.set hbg _ _), Lib.hid ⟨_, spt_put (W := ww) HCX8.out HO8.out HN.out hB0g hkl HOK.out HAL.out 2 (.int .i64 vv) ({ r.instrs[k] with a := vv }) (by decide) rfl rfl rfl hWW.symm (fun _ _ _ _ _ _ => rfl)⟩, Lib.hid (by rw [← hWW]; exact below_set HB8.out hB0g _ _)⟩
    · skip
      go_wp2
      go_meet
      generalize hWW : World.setCell _ _ _ = ww
      exact ⟨Lib.hid (by rw [← hWW]; exact HBD8.out.set hbg _ _), Lib.hid ⟨_, spt_put (W := ww) HCX8.out HO8.out HN.out hB0g hkl HOK.out HAL.out 3 (.int .i64 vv) ({ r.instrs[k] with b := vv }) (by decide) rfl rfl rfl hWW.symm (fun _ _ _ _ _ _ => rfl)⟩, Lib.hid (by rw [← hWW]; exact below_set HB8.out hB0g _ _)⟩
    · skip
      go_wp2
      go_meet
      generalize hWW : World.setCell _ _ _ = ww
      exact ⟨Lib.hid (by rw [← hWW]; exact HBD8.out.set hbg _ _), Lib.hid ⟨_, spt_put (W := ww) HCX8.out HO8.out HN.out hB0g hkl HOK.out HAL.out 4 (.int .i64 vv) ({ r.instrs[k] with imm := vv }) (by decide) rfl rfl rfl hWW.symm (fun _ _ _ _ _ _ => rfl)⟩, Lib.hid (by rw [← hWW]; exact below_set HB8.out hB0g _ _)⟩
    · skip
      go_wp2
      go_meet
      generalize hWW : World.setCell _ _ _ = ww
      exact ⟨Lib.hid (by rw [← hWW]; exact HBD8.out.set hbg _ _), Lib.hid ⟨_, spt_put (W := ww) HCX8.out HO8.out HN.out hB0g hkl HOK.out HAL.out 0 (.int .i64 vv) ({ r.instrs[k] with op := vv }) (by decide) rfl rfl rfl hWW.symm (fun _ _ _ _ _ _ => rfl)⟩, Lib.hid (by rw [← hWW]; exact below_set HB8.out hB0g _ _)⟩
    · skip
      go_wp2
      go_meet
      generalize hWW : World.setCell _ _ _ = ww
      exact ⟨Lib.hid (by rw [← hWW]; exact HBD8.out.set hbg _ _), Lib.hid ⟨_, spt_put (W := ww) HCX8.out HO8.out HN.out hB0g hkl HOK.out HAL.out 5 (.string ⟨#[120, 45]⟩) ({ r.instrs[k] with name := ⟨#[120, 45]⟩ }) (by decide) rfl rfl rfl hWW.symm (fun _ _ _ _ _ _ => rfl)⟩, Lib.hid (by rw [← hWW]; exact below_set HB8.out hB0g _ _)⟩
    · obtain ⟨j0, hj0, hq0, hq1, hq2⟩ := info_parts info_int
      have HJ : Hid (j0.zero = some (.int .i64 0) ∧ j0.size = 1 ∧ j0.bytes = 8) := Lib.hid ⟨hq0, hq1, hq2⟩
      have Hj0 := Lib.hid hj0
      clear hj0 hq0 hq1 hq2
      have HRA : Hid (Rd w8 w3.heap.size 1 (ints r.instrs[k].args) XA r.instrs[k].args.length) := Lib.hid (by
        obtain ⟨A', c', hv, _, _, _, _, hrd⟩ := HPT.out.1
        simp only [Value.slice.injEq] at hv
        obtain ⟨rfl, _, rfl⟩ := hv
        exact hrd)
      have hal2 := HAL.out _ (List.getElem_mem hkl)
      have hls : w3.heap.size ≤ w8.heap.size := HB8.out.size
      go_wp2_with (first
        | (at_builtin; refine wpList_append_rd _ rfl (.tmp 40) (.tmp 44) 22 rfl w8.heap.size 3 j0 (.int .i64 0) 1 8 Tryz.underlying22 Hj0.out HJ.out.1 HJ.out.2.1 HJ.out.2.2 rfl (by omega) (.slice (some ⟨w8.heap.size, 0, none⟩) 1 1) 1 [.int .i64 vv] rfl (own_one (blk_new _ _) (Nat.le_refl _)) w3.heap.size XA r.instrs[k].args.length xc (ints r.instrs[k].args) rfl (HRA.out.below (below_new _ _) hls) (ints_one _) (by omega) (by simp) ?_
           intro v9 w9 hown9 hg9 hat9
           rw [Nat.add_comm, show [Value.int .i64 vv] ++ ints r.instrs[k].args = ints (vv :: r.instrs[k].args) from rfl] at hown9
           obtain ⟨A9, c9, rfl⟩ := own_form hown9
           have hb9 : Below w8.heap.size w8 w9 := (below_new w8 _).grown hg9 (by simp) (fun k e => by cases e; exact Nat.le_refl _)
           have HO9 := Lib.hid hown9
           have HX9 := Lib.hid ((HO8.out.alloc (.cells #[.int .i64 vv] 3)).kept hg9 (.inr (by simp only [Value.ownBlock, ne_eq, Option.some.injEq]; omega)))
           have HB9 := Lib.hid hb9
           have hfr9 := own_free HX9.out
           have e69 : w9.cell? ⟨g6, k * 15 + 6, none⟩ = some (.slice XA r.instrs[k].args.length xc) := (hb9.cell (p := ⟨g6, k * 15 + 6, none⟩) hgl).trans e6
           clear hown9 hg9 hat9 hb9))
      go_meet
      generalize hWW : World.setCell _ _ _ = ww
      have hbg9 := own_ge HO9.out
      refine ⟨Lib.hid (by rw [← hWW]; exact (HBD8.out.step HB9.out).set hbg _ _), Lib.hid ⟨_, spt_args (W := ww) (HCX8.out.keep (fun b hb => HB9.out.block b (by omega)) (Nat.le_refl _)) HX9.out HN.out hB0g hkl HOK.out HAL.out vv A9 c9 hWW.symm ?_⟩, Lib.hid (by rw [← hWW]; exact below_set (below_step HB8.out HB9.out) hB0g _ _)⟩
      rw [← hWW]
      exact IsInts.own (own_setCell_far HO9.out _ _ (fun e => by have := hbg9 _ e; simp at this; omega))
  case rest =>
    obtain ⟨HBX, HSP, HBC⟩ := hcut
    obtain ⟨l', hsp⟩ := HSP.out
    have hins := hsp.ins
    rw [← hsp.len] at hins
    have hcls : IsInts wc wc.heap.size r.classes (.slice CA 7 cc) := by
      have h := (HRC.out.cls.below HBC.out (Nat.le_refl _)).more HBC.out.size
      rw [HML.out] at h
      exact h
    have HSB : Hid (∀ W : World, Below wc.heap.size wc W → Calls Tryz.prog 18 #[.agg #[.int .i64 r.params, .slice CA 7 cc, .slice (some ⟨g6, 0, none⟩) n c6, .slice none r.edits 0], .int .i64 at_] W fun e w' => e = .returned (.bool true) ∧ Below W.heap.size W w') := Lib.hid (fun W hW => by
      have := same_of ⟨r.params, r.classes, l', r.edits⟩ _ (some ⟨g6, 0, none⟩) c6 none 0 wc at_ G ⟨hcls, hins, hsp.ok⟩ (HE3.out.below HBC.out hG3) (HR3.out.below HBC.out hG3) (Nat.le_trans hG3 HBC.out.size) hsp.al (by rw [hsp.len]; omega) W hW
      rw [hsp.len] at this
      exact this)
    have HSA9 : Hid (∀ W : World, Below wc.heap.size wc W → Calls Tryz.prog 18 #[.agg #[.int .i64 q.params, .slice QA qm qc, .slice IA qn ic, .slice DA q.edits dc], .int .i64 at_] W fun e w' => e = .returned (.bool true) ∧ Below W.heap.size W w') := Lib.hid (fun W hW => HSA.out W (below_step HBX.out.bw hW))
    have HSR9 := Lib.hid (fun (W : World) (hW : Below wc.heap.size wc W) => HSR.out W (below_step HBC.out hW))
    have HSN9 := Lib.hid (fun (W : World) (hW : Below wc.heap.size wc W) => HSN.out W (below_step HBC.out hW))
    clear hsp hins hcls HSP HPT e0 e1 e2 e3 e4 e5 e6 hfr
    obtain ⟨⟨z0, z1, z2, z3⟩, ⟨a0, a1, a2, a3⟩, ⟨b0, b1, b2, b3⟩⟩ := HBX.out.cells
    go_wp2_with fail
    refine (HSR9.out wc (Below.refl _ _)).mono ?_
    rintro e wd ⟨rfl, hbd⟩
    have HBD := Lib.hid hbd
    clear z0 z1 z2 z3 a0 a1 a2 a3 b0 b1 b2 b3 hbd
    obtain ⟨⟨z0, z1, z2, z3⟩, ⟨a0, a1, a2, a3⟩, ⟨b0, b1, b2, b3⟩⟩ := (HBX.out.step HBD.out).cells
    go_wp2_with fail
    refine (HSB.out wd HBD.out).mono ?_
    rintro e we ⟨rfl, hbe⟩
    have HBE := Lib.hid (below_step HBD.out hbe)
    clear z0 z1 z2 z3 a0 a1 a2 a3 b0 b1 b2 b3 hbe
    obtain ⟨⟨z0, z1, z2, z3⟩, ⟨a0, a1, a2, a3⟩, ⟨b0, b1, b2, b3⟩⟩ := (HBX.out.step HBE.out).cells
    go_wp2_with fail
    refine (HSA9.out we HBE.out).mono ?_
    rintro e wf ⟨rfl, hbf⟩
    have HBF := Lib.hid (below_step HBE.out hbf)
    clear z0 z1 z2 z3 a0 a1 a2 a3 b0 b1 b2 b3 hbf
    go_wp2_with fail
    refine (HSN9.out wf HBF.out).mono ?_
    rintro e wg ⟨rfl, hbg2⟩
    have hbl := below_step HBF.out hbg2
    go_wp2
    go_ret
    exact ⟨rfl, below_step HBX.out.bw hbl⟩
end Go.Proofs.YtdjldmpfginkdaaGreatDoor
