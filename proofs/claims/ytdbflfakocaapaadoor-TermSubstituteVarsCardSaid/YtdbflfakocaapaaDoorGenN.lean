/- The walk of telmake.named, given a contract of arg. -/
import Derived.Test.YtdbflfakocaapaaDoorGenP
import Derived.Deep.RegionWith
namespace Go.Proofs.YtdbflfakocaapaaDoor
open Go.RowKit
attribute [local go_sem ↓] Go.wp_at_zero Go.wp_at_succ

theorem row_some {sb tb : Nat} (h : sb < tb) : ∀ s, (some sb : Option Nat) = some s → s < tb := fun s e => by injection e with e; omega
/-- While the arguments of a generated term grow. -/
def GL (V : Int) (sb r1 tb : Nat) (wb W : World) (k : Int) (nm : ByteArray) (v : Value) (ts : List Ty) : Prop := ∃ rj, BL (some sb) tb wb W k nm 0 v ts ∧ StreamR W sb rj ∧ rj ≤ r1 ∧ (∀ t ∈ ts, t.ok ∧ t.nar ∧ t.cl V) ∧ Ty.sizes ts + 4 * rj ≤ ts.length + 4 * r1
theorem GL.next {V : Int} {sb r1 rj r4 tb : Nat} {wb W' : World} {k : Int} {nm : ByteArray} {v' : Value} {ts : List Ty} {t1 : Ty} (hb : BL (some sb) tb wb W' k nm 0 v' (ts ++ [t1])) (hst : StreamR W' sb r4) (h4 : r4 ≤ rj) (hj : rj ≤ r1) (hall : ∀ t ∈ ts, t.ok ∧ t.nar ∧ t.cl V) (hs : Ty.sizes ts + 4 * rj ≤ ts.length + 4 * r1) (hg : Good V (1 + 4 * (rj - r4)) t1) :
    GL V sb r1 tb wb W' k nm v' (ts ++ [t1]) := by
  refine ⟨r4, hb, hst, by omega, fun t ht => ?_, ?_⟩
  · rcases List.mem_append.1 ht with h | h
    · exact hall t h
    · rw [List.mem_singleton.1 h]; exact ⟨hg.ok, hg.nar, hg.closed⟩
  · have := hg.size
    rw [sizes_snoc]
    simp only [List.length_append, List.length_cons, List.length_nil]
    omega

set_option maxRecDepth 20000 in
set_option maxHeartbeats 4000000 in
theorem named_walk (d V : Int) (r : Nat) (hd0 : 0 ≤ d) (hd : d ≤ 10) (_ : 0 ≤ V) (_ : V ≤ 100) (HA : ∀ r1, r1 ≤ r → GenAt 91 (d - 1) V r1) : GenAt 75 d V r := by
  intro w sb G vd hpre
  have HAR := Lib.hid HA
  have HG0 := Lib.hid (GS.start hpre)
  obtain ⟨gd, rfl, _⟩ := hpre.decls
  clear hpre HA
  go_enter Tryd.func75, Tryd.ntmps75
  go_wp2_with fail
  refine (c_NextR 12 sb _ _ HG0.out.pre.st (by omega) (by omega)).mono ?_
  rintro e wc ⟨x, r1, rfl, hx0, hx1, hst1, hg1, hr1, hnz⟩
  have HGS := Lib.hid (HG0.out.step hg1 hst1 hr1)
  clear HG0 hst1 hg1
  obtain ⟨xn, rfl⟩ := Int.eq_ofNat_of_zero_le hx0
  by_cases h4 : xn < 4
  · have hEW := HGS.out.pre.env
    obtain ⟨ga, oa, ca, hga, hgaG, hstr⟩ := hEW.open_ (by omega)
    obtain ⟨sr, hsr⟩ := hstr xn h4
    clear hstr hEW hnz
    have hx4 : (xn : Int) < 4 := by omega
    go_wp2_with fail
    refine ((c_Named (w.heap.size + 1) sr [] _ _ (IsTyl.nil none 0)).mono RetTy.g).mono ?_
    rintro e w4 ⟨T, A4, c4, hT, rfl, hty4, hb4⟩
    have hgs4 := HGS.out.below hb4
    obtain ⟨⟨z0, z1, z2, z3⟩, f0, f1, f2, f3⟩ := box_frozen hgs4.box
    have HFB := Lib.hid (hgs4.fin (V := V) hty4.out (by rw [hT.out]; exact (good_leaf 2 sr (by omega) (by omega)).mono (Int.le_refl _) (by omega)))
    clear hgs4
    go_wp2
    generalize hWF : (((w4.setCell _ _).setCell _ _).setCell _ _).setCell _ _ = WF
    obtain ⟨hfin, zz0, zz1, zz2, zz3⟩ := HFB.out WF hWF.symm
    clear hWF
    exact bodyPost_ret (v := .agg #[.int .i64 T.kind, .string T.name, .int .i64 T.index, .slice A4 T.args.length c4]) (by simp [results, Tryd.results75, go_sem, zz0, zz1, zz2, zz3]) rfl hfin.out
  · obtain ⟨g', hv', hne, hgd, hds⟩ := HGS.out.pre.decls
    simp only [Value.slice.injEq, Option.some.injEq, Addr.mk.injEq, and_true] at hv'
    obtain rfl := hv'
    obtain ⟨q, rfl⟩ : ∃ q, xn = q + 4 := ⟨xn - 4, by omega⟩
    obtain ⟨nm, ar, k, s, i, A, n, c, b, A', n', c', ha0, ha2, e0, e1, e2, e3, e4, e5, e6, e7⟩ := hds q (by omega)
    obtain ⟨an, rfl⟩ := Int.eq_ofNat_of_zero_le ha0
    have hr1' : r1 < r := hnz (by omega)
    have hx4 : ¬ ((q + 4 : Nat) : Int) < 4 := by omega
    have hw1 : IntKind.i64.wrap (((q + 4 : Nat) : Int) - 4) = (q : Int) := by rw [show ((q + 4 : Nat) : Int) - 4 = (q : Int) by omega]; exact IntWalk.i64_in _ (by omega)
    have hq0 : (0 : Int) ≤ (q : Int) := by omega
    have hq8 : (q : Int) < 8 := by omega
    have hwd : IntKind.i64.wrap (d - 1) = d - 1 := IntWalk.i64_in _ (by omega)
    have HX0 : Hid (∀ W : World, W = ((wc.alloc (.cells #[.string nm, .int .i64 an, .int .i64 k, .string s, .int .i64 i, .slice A n c, .bool b, .slice A' n' c'] 65)).alloc (.cells #[.int .i64 2, .string nm, .int .i64 0, .slice none 0 0] 25)) →
        ∃ wb : World, Below wc.heap.size wc wb ∧ wb.heap.size = wc.heap.size + 1 ∧ wb.cell? ⟨wc.heap.size, 1, none⟩ = some (.int .i64 an) ∧ GL V sb r1 (wc.heap.size + 1) wb W 2 nm (.slice none 0 0) []) := Lib.hid (fun W hW => by
      subst hW
      refine ⟨wc.alloc (.cells #[.string nm, .int .i64 an, .int .i64 k, .string s, .int .i64 i, .slice A n c, .bool b, .slice A' n' c'] 65), below_new _ _, by simp, by simp, r1, ?_, ?_, Nat.le_refl _, (fun t ht => by cases ht), by simp [Ty.sizes]⟩
      · have := blk_new (wc.alloc (.cells #[.string nm, .int .i64 an, .int .i64 k, .string s, .int .i64 i, .slice A n c, .bool b, .slice A' n' c'] 65)) (.cells #[.int .i64 2, .string nm, .int .i64 0, .slice none 0 0] 25)
        exact BL.start (by simpa using this) (grown_of_below (below_new _ _))
      · exact (HGS.out.pre.st.below (below_new _ _) HGS.out.pre.st.lt).below (below_new _ _) (by have := HGS.out.pre.st.lt; simp; omega))
    clear hds hnz
    go_wp2
    generalize hW0 : (wc.alloc _).alloc _ = W0
    obtain ⟨wb, hbb, hsb, hcd, hgl0⟩ := HX0.out W0 hW0.symm
    have HGL0 := Lib.hid hgl0
    clear hW0 HX0 hgl0 e0 e1 e2 e3 e4 e5 e6 e7
    have hsc := HGS.out.pre.st.lt
    go_loopw [12] (fun i wr => ∃ j : Nat, j ≤ an ∧ i = .int .i64 j ∧ Hid (∃ v ts, ts.length = j ∧ GL V sb r1 (wc.heap.size + 1) wb wr 2 nm v ts)) (fun i _ => an - (intOf i).toNat)
    case atStart => exact ⟨0, by omega, rfl, Lib.hid ⟨_, [], rfl, HGL0.out⟩⟩
    case round =>
      obtain ⟨j, hj, rfl, HGL⟩ := hrel
      obtain ⟨v, ts, hlen, rj, hal, hstj, hrj, hall, hszs⟩ := HGL.out
      subst hlen
      have hcdr : wr.cell? ⟨wc.heap.size, 1, none⟩ = some (.int .i64 an) := (World.cell?_of_block (a := ⟨wc.heap.size, 1, none⟩) (hal.2.1.block wc.heap.size (by omega) (by simp; omega))).trans hcd
      have hgcr : wc.grownBy wr (some sb) := grown_trans' (grown_of_below hbb) ⟨hal.2.1.os, hal.2.1.tape, hal.2.1.output, hal.2.1.size, hal.2.1.block⟩
      have HPR := Lib.hid ((HGS.out.pre.step hgcr hstj).below (below_drew wr))
      have HGSr := Lib.hid (HGS.out.step hgcr hstj hrj)
      have HALL := Lib.hid hall
      have HSZ := Lib.hid hszs
      have HSTJ := Lib.hid hstj
      clear HGL HGL0 hall hszs hstj hgcr
      by_cases hjn : ts.length < an
      · skip
        have HA := Lib.hid hal
        obtain ⟨A, c, rfl⟩ := hal.2.2.form
        have hltt := blk_lt' hal.1
        have hsgw := hal.2.1.size
        have HOG := Lib.hid hal.2.2.own_ge
        have b3 : wr.cell? ⟨wc.heap.size + 1, 3, none⟩ = some (.slice A ts.length c) := hal.cell0.2.2.2
        obtain ⟨i0, hi0, hz0, hz1, hz2⟩ := info_parts info_Type
        have HI : Hid (i0.zero = some (.agg #[.int .i64 0, .string ⟨#[]⟩, .int .i64 0, .slice none 0 0]) ∧ i0.size = 4 ∧ i0.bytes = 56) := Lib.hid ⟨hz0, hz1, hz2⟩
        clear hz0 hz1 hz2
        have Hi0 := Lib.hid hi0
        clear hi0 hal
        have hL4 : wr.heap.size ≤ wr.drew.heap.size := Nat.le_refl _
        go_wp2
        go_region_law (first
          | (have _t := tok4; refine step_append_rd _ ?_ (.tmp 40) (.tmp 47) _ ?_ (wc.heap.size + 1 + 1) 25 i0 (.agg #[.int .i64 0, .string ⟨#[]⟩, .int .i64 0, .slice none 0 0]) 4 56 Tryd.underlying23 Hi0.out HI.out.1 HI.out.2.1 HI.out.2.2 rfl ?_ (.slice A ts.length c) ts.length xs ?_ ?_ (w4.heap.size + 1) (some ⟨w4.heap.size, 0, none⟩) 1 1 [.int .i64 t1.kind, .string t1.name, .int .i64 t1.index, .slice A1 t1.args.length c1] ?_ ?_ ?_ ?_ ?_ ?_; rfl; rfl; omega; rfl; exact hown4; rfl; exact Rd.blk (cs := #[.int .i64 t1.kind, .string t1.name, .int .i64 t1.index, .slice A1 t1.args.length c1]) (blk_new w4 _) rfl (by omega); exact (by simp [Value.oneCell']); omega; go_size; intro v5 w5 hown5 hg5 hat5
             have hs5 := hg5.size
             have ht5 := (hg5.block (wc.heap.size + 1) (by simp; omega) (fun e => by have := HOG.out (wc.heap.size + 1) e.symm; omega)).trans (blk_old ht4)
             have q3 : w5.cell? ⟨wc.heap.size + 1, 3, none⟩ = some (.slice A ts.length c) := by rw [cell_of_row w5 (wc.heap.size + 1) 3 _ _ _ ht5]; rfl
             have q4 : w5.frozen? ⟨wc.heap.size + 1, 3, none⟩ = false := by simp [World.frozen?, ht5]
             obtain ⟨A5, c5, rfl⟩ : ∃ A c, v5 = .slice A (ts.length + 1) c := by
               rcases hown5.2 with ⟨_, h0⟩ | ⟨g, cap, cur, rfl, _⟩
               · omega
               · exact ⟨_, _, rfl⟩
             have HFIN := Lib.hid (HA.out.round (row_some (by omega)) (by omega) HG4.out hL4 HTY.out HEL.out hown4 hown5 hg5 hat5)
             have HST5 : Hid (StreamR (w5.setCell ⟨wc.heap.size + 1, 3, none⟩ (.slice A5 (ts.length + 1) c5)) sb r4) := Lib.hid (((HST4.out.below (below_new _ _) HST4.out.lt).keep fun b hb => hg5.block b (by simp; omega) (fun e => by have := HOG.out b e.symm; omega)).keep fun b hb => Below.heap_setCell _ _ _ _ (by show b ≠ wc.heap.size + 1; omega))
             clear hown5 hg5 hat5 ht5)
          | (go_simp; go_at_call 91; refine (HAR.out rj (by omega) _ sb G _ HPR.out).mono ?_; rintro e w4 ⟨t1, A1, c1, r4, rfl, hty1, hgd1, hr4, hst4, hg4⟩
             have HST4 := Lib.hid hst4
             have HGD := Lib.hid hgd1
             clear hst4 hgd1
             have tok4 : True := trivial
             have HTY := Lib.hid hty1
             have hs4 := hg4.size
             simp at hs4
             have hlt4 : wc.heap.size + 1 < w4.heap.size := by omega
             have ht4 := HA.out.box4 (row_some (by omega)) hg4
             have q43 : w4.cell? ⟨wc.heap.size + 1, 3, none⟩ = some (.slice A ts.length c) := by rw [cell_of_row w4 (wc.heap.size + 1) 3 _ _ _ ht4]; rfl
             obtain ⟨xs, hown4, hel4⟩ := HA.out.acc4 (row_some (by omega)) hg4 (.cells #[.int .i64 t1.kind, .string t1.name, .int .i64 t1.index, .slice A1 t1.args.length c1] 25)
             have HEL := Lib.hid hel4
             have HG4 := Lib.hid hg4
             clear hel4 hty1 hg4
             ))
        all_goals
          have HNX := Lib.hid (GL.next HFIN.out HST5.out hr4 hrj HALL.out HSZ.out HGD.out)
          clear HEL HG4 HTY hown4 q43 ht4 HA HFIN HST5 HGD HST4
          go_wp2
          go_roundw
          case rel => exact ⟨ts.length + 1, by omega, by go_num, Lib.hid ⟨_, _, by simp, HNX.out⟩⟩
          case measure => simp [intOf]; omega
      · obtain ⟨Av, cv, rfl⟩ := hal.2.2.form
        have hln : ts.length ≤ 2 := by omega
        obtain ⟨⟨z0, z1, z2, z3⟩, f0, f1, f2, f3⟩ := box_frozen HGSr.out.box
        obtain ⟨y0, y1, y2, y3⟩ := hal.cell0
        have hbl := HGS.out.boxlt
        have HFB := Lib.hid (HGSr.out.fin (V := V) (t := ⟨2, nm, 0, ts⟩) ((hal.isTy (m := w.heap.size + 1) (by omega))) (good_node 2 nm ts (by omega) (by omega) (by omega) (by omega) HALL.out (by have := HSZ.out; omega)))
        clear hal
        go_wp2
        generalize hWF : (((wr.setCell _ _).setCell _ _).setCell _ _).setCell _ _ = WF
        obtain ⟨hfin, zz0, zz1, zz2, zz3⟩ := HFB.out WF hWF.symm
        clear hWF
        have zz0' : WF.cell? ⟨w.heap.size, 0, none⟩ = some (.int .i64 2) := zz0
        have zz1' : WF.cell? ⟨w.heap.size, 1, none⟩ = some (.string nm) := zz1
        have zz2' : WF.cell? ⟨w.heap.size, 2, none⟩ = some (.int .i64 0) := zz2
        have zz3' : WF.cell? ⟨w.heap.size, 3, none⟩ = some (.slice Av ts.length cv) := zz3
        exact bodyPost_ret (v := .agg #[.int .i64 2, .string nm, .int .i64 0, .slice Av ts.length cv]) (by simp [results, Tryd.results75, go_sem, zz0', zz1', zz2', zz3']) rfl hfin.out
end Go.Proofs.YtdbflfakocaapaaDoor
