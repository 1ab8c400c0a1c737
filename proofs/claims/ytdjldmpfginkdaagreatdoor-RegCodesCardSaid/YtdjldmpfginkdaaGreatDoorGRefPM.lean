/- Contract of telref25.RegSuccessors.
  Contract of telref25.PointerMaps. -/
import Derived.Test.YtdjldmpfginkdaaGreatDoorGLive
import Derived.Test.YtdjldmpfginkdaaGreatDoorVal2
import Derived.Test.YtdjldmpfginkdaaGreatDoorLiveR
import Derived.Test.YtdjldmpfginkdaaGreatDoorGUses
import Derived.BigQuiet
import Derived.Deep.QuietTactic
namespace Go.Proofs.YtdjldmpfginkdaaGreatDoor
open Go.RowKit
attribute [local go_sem ↓] Go.wp_at_zero Go.wp_at_succ

set_option maxHeartbeats 4000000 in
theorem c_RefSucc (r : Rc) (cls : Value) (IA : Option Addr) (ic : Nat) (DA : Option Addr) (dc : Nat) (at_ : Int) (w : World) (B : Nat) (hr : RcAt w B r cls IA ic) (hB : B ≤ w.heap.size) :
    Calls Tryz.prog 36 #[.agg #[.int .i64 r.params, cls, .slice IA r.instrs.length ic, .slice DA r.edits dc], .int .i64 at_] w fun e w' => ∃ v, e = .returned v ∧ RowRes w.heap.size w' (r.next at_) v ∧ Below w.heap.size w w' := by
  have HB0 := Lib.hid (Bx.start w (.int .i64 r.params) cls (.slice IA r.instrs.length ic) (.slice DA r.edits dc))
  have HR := Lib.hid hr
  have HVAL := Lib.hid (fun (W : World) (hW : Below w.heap.size w W) => c_RefVal r cls IA ic DA dc W B (HR.out.below hW hB) (Nat.le_trans hB hW.size))
  have HNX : Hid (∀ (h : ¬ (0 ≤ at_ ∧ at_ < r.instrs.length ∧ r.validate = 0)), r.next at_ = []) := Lib.hid (fun h => if_neg h)
  obtain ⟨CA, cc, rfl, _⟩ := hr.cls
  have hbz := HB0.out.2.1
  clear hr
  by_cases hv : r.validate = 0
  case neg =>
    have HZ := Lib.hid (HNX.out (fun h => hv h.2.2))
    have kv : (r.validate != 0) = true := by simpa using hv
    clear HNX HR hv
    generalize r.validate = vl at *
    obtain ⟨c0, c1, c2, c3⟩ := HB0.out.1
    go_enter Tryz.func36, Tryz.ntmps36
    go_wp2_with fail
    refine (HVAL.out _ hbz).mono ?_
    rintro e w1 ⟨rfl, hb1⟩
    have hbz1 := below_step hbz hb1
    clear hb1 HVAL hbz c0 c1 c2 c3
    go_wp2
    go_ret
    exact ⟨_, rfl, .inl ⟨HZ.out, rfl⟩, hbz1⟩
  case pos =>
  have hok := Rc.val_ok_iff.1 hv
  have hSO := SuccOk.of hok.2.2.2.2.2.2.2.1 hok.2.2.2.2.2.2.2.2.1
  have hn20 := hok.1
  by_cases h0 : at_ < 0
  · have HZ := Lib.hid (HNX.out (fun h => by omega))
    rw [hv] at HVAL
    clear HNX HR hSO hok hv
    generalize r.instrs.length = n at *
    obtain ⟨c0, c1, c2, c3⟩ := HB0.out.1
    go_enter Tryz.func36, Tryz.ntmps36
    go_wp2_with fail
    refine (HVAL.out _ hbz).mono ?_
    rintro e w1 ⟨rfl, hb1⟩
    have HB1 := Lib.hid (HB0.out.step hb1)
    have hbz1 := HB1.out.2.1
    clear hb1 HVAL hbz c0 c1 c2 c3
    obtain ⟨c0, c1, c2, c3⟩ := HB1.out.1
    go_wp2
    go_ret
    exact ⟨_, rfl, .inl ⟨HZ.out, rfl⟩, hbz1⟩
  by_cases h1 : (r.instrs.length : Int) ≤ at_
  · have HZ := Lib.hid (HNX.out (fun h => by omega))
    rw [hv] at HVAL
    clear HNX HR hSO hok hv
    generalize r.instrs.length = n at *
    obtain ⟨c0, c1, c2, c3⟩ := HB0.out.1
    go_enter Tryz.func36, Tryz.ntmps36
    go_wp2_with fail
    refine (HVAL.out _ hbz).mono ?_
    rintro e w1 ⟨rfl, hb1⟩
    have HB1 := Lib.hid (HB0.out.step hb1)
    have hbz1 := HB1.out.2.1
    clear hb1 HVAL hbz c0 c1 c2 c3
    obtain ⟨c0, c1, c2, c3⟩ := HB1.out.1
    go_wp2
    go_ret
    exact ⟨_, rfl, .inl ⟨HZ.out, rfl⟩, hbz1⟩
  obtain ⟨i, rfl⟩ : ∃ i : Nat, at_ = i := ⟨at_.toNat, by omega⟩
  have hin : i < r.instrs.length := by omega
  have HX : Hid (r.next i = (r.succ i).map fun (q : Nat) => (q : Int)) := Lib.hid (by unfold Rc.next; rw [if_pos ⟨by omega, by omega, hv⟩]; simp)
  have HSU : Hid (∀ (W : World) (_ : Below w.heap.size w W), Calls Tryz.prog 56 #[.agg #[.int .i64 r.params, .slice CA r.classes.length cc, .slice IA r.instrs.length ic, .slice DA r.edits dc], .int .i64 i] W (RetRow ((r.succ i).map fun (q : Nat) => (q : Int)) W)) := Lib.hid (fun W hW => by
    have := c_nextR (.int .i64 r.params) (.slice CA r.classes.length cc) (.slice DA r.edits dc) r.instrs _ i W B (HR.out.ins.below hW hB) (Nat.le_trans hB hW.size) hin (by omega)
    rw [(hSO i hin).1] at this
    exact this)
  rw [hv] at HVAL
  clear hok hSO HNX HR hv
  generalize r.instrs.length = n, r.succ i = sc at *
  obtain ⟨c0, c1, c2, c3⟩ := HB0.out.1
  go_enter Tryz.func36, Tryz.ntmps36
  go_wp2_with fail
  refine (HVAL.out _ hbz).mono ?_
  rintro e w1 ⟨rfl, hb1⟩
  have HB1 := Lib.hid (HB0.out.step hb1)
  have hbz1 := HB1.out.2.1
  have hsz1 := hbz1.size
  clear c0 c1 c2 c3
  obtain ⟨c0, c1, c2, c3⟩ := HB1.out.1
  clear HB0 hb1 HVAL hbz
  go_wp2_with fail
  refine (HSU.out _ hbz1).mono ?_
  rintro e w2 ⟨v, rfl, hres, hb2⟩
  have hbz2 := below_step hbz1 hb2
  have HRES : Hid (RowRes w.heap.size w2 (r.next i) v) := Lib.hid (by
    rw [HX.out]
    rcases hres with h | ⟨g, h2, h3, h4⟩
    · exact .inl h
    · exact .inr ⟨g, h2, Nat.le_trans hsz1 h3, h4⟩)
  clear hres hb2 c0 c1 c2 c3
  go_wp2
  go_ret
  exact ⟨_, rfl, HRES.out, hbz2⟩
end Go.Proofs.YtdjldmpfginkdaaGreatDoor
namespace Go.Proofs.YtdjldmpfginkdaaGreatDoor
open Go.RowKit
attribute [local go_sem ↓] Go.wp_at_zero Go.wp_at_succ

set_option maxRecDepth 100000 in
set_option maxHeartbeats 8000000 in
theorem c_RefPM (r : Rc) (cls : Value) (IA : Option Addr) (ic : Nat) (DA : Option Addr) (dc : Nat) (w : World) (B : Nat) (hr : RcAt w B r cls IA ic) (hB : B ≤ w.heap.size) :
    Calls Tryz.prog 35 #[.agg #[.int .i64 r.params, cls, .slice IA r.instrs.length ic, .slice DA r.edits dc]] w fun e w' => ((¬ r.Ok ∧ e = .returned (.slice none 0 0)) ∨ (r.Ok ∧ ∃ v, e = .returned v ∧ IsRows w' w'.heap.size r.pmaps v)) ∧ Below w.heap.size w w' := by
  have HB0 := Lib.hid (Bx.start w (.int .i64 r.params) cls (.slice IA r.instrs.length ic) (.slice DA r.edits dc))
  have HR := Lib.hid hr
  have HLV := Lib.hid (fun (W : World) (hW : Below w.heap.size w W) => c_RefLive r cls IA ic DA dc W B (HR.out.below hW hB) (Nat.le_trans hB hW.size))
  obtain ⟨CA, cc, rfl, _⟩ := hr.cls
  have hbz := HB0.out.2.1
  clear hr
  by_cases hok : r.Ok
  case neg =>
    have HOK := Lib.hid hok
    clear HR hok
    obtain ⟨c0, c1, c2, c3⟩ := HB0.out.1
    go_enter Tryz.func35, Tryz.ntmps35
    go_wp2_with fail
    refine (HLV.out _ hbz).mono ?_
    rintro e w1 ⟨h | h, hb1⟩
    · obtain ⟨_, rfl⟩ := h
      have hbz1 := below_step hbz hb1
      clear hb1 HB0 HLV c0 c1 c2 c3
      go_wp2
      go_loopw [4, 5] (fun o s wr => o = .slice none 0 0 ∧ s = .int .i64 0 ∧ wr = w1) (fun _ _ _ => 0)
      case atStart => exact ⟨rfl, rfl, rfl⟩
      case round =>
        obtain ⟨rfl, rfl, rfl⟩ := hrel
        go_wp2
        go_ret
        exact ⟨.inl ⟨HOK.out, rfl⟩, hbz1⟩
    · exact absurd h.1 HOK.out
  case pos =>
  have HOK := Lib.hid hok
  have hn20 := hok.1
  have hm10 := hok.2.1
  clear hok
  obtain ⟨i0, hi0, hz0, hz1, hz2⟩ := info_parts info_int
  have HI : Hid (i0.zero = some (.int .i64 0) ∧ i0.size = 1 ∧ i0.bytes = 8) := Lib.hid ⟨hz0, hz1, hz2⟩
  have Hi0 := Lib.hid hi0
  clear hi0 hz0 hz1 hz2
  obtain ⟨j0, hj0, hy0, hy1, hy2⟩ := info_parts info_introw
  have HJ : Hid (j0.zero = some (.slice none 0 0) ∧ j0.size = 1 ∧ j0.bytes = 24) := Lib.hid ⟨hy0, hy1, hy2⟩
  have Hj0 := Lib.hid hj0
  clear hj0 hy0 hy1 hy2
  have HPM : Hid (r.pmaps = (List.range r.instrs.length).map r.maps) := Lib.hid rfl
  have HLVS : Hid (∀ k l, r.lives[k]? = some l → l = r.live k) := Lib.hid (fun k l h => by
    unfold Rc.lives at h
    rw [List.getElem?_map] at h
    cases hq : (List.range r.instrs.length)[k]? with
    | none => rw [hq] at h; cases h
    | some a =>
      rw [hq] at h
      obtain ⟨_, rfl⟩ := List.getElem?_eq_some_iff.1 hq
      simp at h
      exact h.symm)
  have HLL := Lib.hid (live_len r)
  have HLR := Lib.hid (fun (i : Nat) (k : Int) => @live_rng r i k)
  have HCL := Lib.hid HR.out.cls
  clear HR
  obtain ⟨c0, c1, c2, c3⟩ := HB0.out.1
  go_enter Tryz.func35, Tryz.ntmps35
  go_wp2_with fail
  refine (HLV.out _ hbz).mono ?_
  rintro e w1 ⟨h | h, hb1⟩
  · exact absurd HOK.out h.1
  obtain ⟨_, gl, rfl, hrows⟩ := h
  have HRW := Lib.hid hrows
  have HB1 := Lib.hid (HB0.out.step hb1)
  have hbz1 := HB1.out.2.1
  have hw1 := HB1.out.2.2
  clear hb1 HB0 HLV hbz hrows c0 c1 c2 c3
  generalize hn : r.instrs.length = n at *
  generalize hm : r.classes.length = m at *
  have HN := Lib.hid hn
  have HMM := Lib.hid hm
  clear hn hm
  have HO0 := Lib.hid (Grw.start w1 w1.heap.size r.maps (fun _ => .slice none 0 0))
  go_wp2
  go_loopw [4, 5] (fun o s wr => ∃ (k Lk : Nat) (vs : Nat → Value), k ≤ n ∧ s = .int .i64 k ∧ Hid (Grw w1.heap.size k Lk r.maps vs o wr) ∧ Below w1.heap.size w1 wr ∧ Lk ≤ wr.heap.size ∧ w1.heap.size ≤ Lk) (fun _ s _ => n - (intOf s).toNat)
  case atStart => exact ⟨0, _, _, by omega, rfl, HO0, Below.refl _ _, Nat.le_refl _, Nat.le_refl _⟩
  case round =>
    clear HO0
    obtain ⟨k, Lk, vs, hk, rfl, HO, hbw, hlk, hL⟩ := hrel
    have hk0 : (0 : Int) ≤ (k : Int) := by omega
    by_cases hkn : k < n
    · have hk1 : (k : Int) < (n : Int) := by omega
      obtain ⟨g, o, l, u, hga, hgB, hl, hcu, hu⟩ := (HRW.out.below hbw (Nat.le_refl _)).at_ hkn
      simp only [Option.some.injEq, Addr.mk.injEq, and_true] at hga
      obtain ⟨rfl, rfl⟩ := hga
      have hll := HLVS.out k l hl
      have HLE : Hid (l.length ≤ m ∧ ∀ x ∈ l, 0 ≤ x ∧ x < m) := Lib.hid ⟨by rw [hll]; exact HLL.out k, fun x hx => HLR.out k x (by rw [← hll]; exact hx)⟩
      have HMP : Hid (r.maps k = l.filter fun x => decide (r.cls x = 0)) := Lib.hid (by rw [hll]; rfl)
      simp only [Nat.zero_add] at hcu
      have HU : Hid (∀ W, Below w1.heap.size w1 W → W.cell? ⟨gl, k, none⟩ = some u ∧ IsInts W w1.heap.size l u) := Lib.hid (fun W hW =>
        ⟨((hW.cell (p := ⟨gl, k, none⟩) hgB).trans (hbw.cell (p := ⟨gl, k, none⟩) hgB).symm).trans hcu, hu.keep (fun b hb => (hW.block b (by omega)).trans (hbw.block b (by omega)).symm) (Nat.le_refl _)⟩)
      obtain ⟨UA, uc, rfl, _⟩ := hu
      clear hl hll hcu
      generalize hnl : l.length = nl at *
      have HNL := Lib.hid hnl
      clear hnl
      have hnlm := HLE.out.1
      go_wp2
      obtain ⟨w9, rfl⟩ : ∃ w9 : World, w9 = wr := ⟨_, rfl⟩
      go_loopw [6, 7] (fun v s wr => ∃ (q : Nat), q ≤ nl ∧ s = .int .i64 q ∧ Hid (Grw w1.heap.size k Lk r.maps vs u4 wr) ∧ Hid (wr.ownsRow Lk 3 1 v ((l.take q).filter fun x => decide (r.cls x = 0)).length (ints ((l.take q).filter fun x => decide (r.cls x = 0)))) ∧ Below w1.heap.size w1 wr ∧ Lk ≤ wr.heap.size) (fun _ s _ => nl - (intOf s).toNat)
      case atStart => exact ⟨0, by omega, rfl, HO, Lib.hid (World.ownsRow_nil _ _ _ _), hbw, hlk⟩
      case round =>
        clear HO hbw hlk
        obtain ⟨q, hq, rfl, HO, HOW, hbw, hlk⟩ := hrel
        have hq0 : (0 : Int) ≤ (q : Int) := by omega
        obtain ⟨hcu, hu2⟩ := HU.out wr hbw
        by_cases hqn : q < nl
        · have hq1 : (q : Int) < (nl : Int) := by omega
          obtain ⟨gu, ou, hqu, rfl, hgu, hcq⟩ := hu2.at_ (w' := wr) (fun _ _ => rfl) hqn
          obtain ⟨hx0, hx1⟩ := HLE.out.2 _ (List.getElem_mem hqu)
          have HTK : Hid ((l.take (q + 1)).filter (fun x => decide (r.cls x = 0)) = (l.take q).filter (fun x => decide (r.cls x = 0)) ++ (if r.cls l[q] = 0 then [l[q]] else [])) := Lib.hid (by
            rw [List.take_succ_eq_append_getElem hqu, List.filter_append]
            congr 1
            by_cases h : r.cls l[q] = 0 <;> simp [h])
          have hole : ((l.take q).filter (fun x => decide (r.cls x = 0))).length ≤ m := by
            have h1 := List.length_filter_le (fun x => decide (r.cls x = 0)) (l.take q)
            have h2 : (l.take q).length ≤ l.length := by simp; omega
            have h3 := HNL.out
            omega
          generalize (l.take q).filter (fun x => decide (r.cls x = 0)) = ol at *
          generalize l[q] = x at *
          obtain ⟨xn, rfl⟩ : ∃ xn : Nat, x = xn := ⟨x.toNat, by omega⟩
          have hxm : xn < m := by omega
          have hwb : Below w.heap.size w wr := hbz1.trans (hbw.mono (by omega))
          obtain ⟨gc, oc, hxc, rfl, _, hcc⟩ := HCL.out.at_ (w' := wr) (fun b hb => hwb.block b (by omega)) hxm
          have HCX : Hid (r.cls xn = r.classes[xn]) := Lib.hid (cls_at (List.getElem?_eq_getElem hxc))
          generalize r.classes[xn] = cx at *
          obtain ⟨b0, b1, b2, b3⟩ := HB1.out.1
          have b1' := (hbw.cell (p := ⟨w.heap.size, 1, none⟩) (by simp; omega)).trans b1
          have HCU := Lib.hid (fun (d : Nat) => (show (wr.drewN d).cell? ⟨gl, k, none⟩ = some (.slice (some ⟨gu, ou, none⟩) nl uc) from hcu))
          clear b0 b1 b2 b3 hu2
          by_cases hc0 : cx = 0
          · have HE : Hid ((l.take (q + 1)).filter (fun x => decide (r.cls x = 0)) = ol ++ [(xn : Int)]) := Lib.hid (by rw [HTK.out, HCX.out, if_pos hc0])
            subst hc0
            go_wp2
            go_quiet (fail)
            have HO2 := Lib.hid (HO.out.below (below_drewN (Below.refl _ _) nq))
            have HOW2 : Hid ((wr.drewN nq).ownsRow Lk 3 1 u6 ol.length (ints ol)) := Lib.hid HOW.out
            have hbw2 : Below w1.heap.size w1 (wr.drewN nq) := below_drewN hbw nq
            have hlk2 : Lk ≤ (wr.drewN nq).heap.size := hlk
            have hcq2 : (wr.drewN nq).cell? ⟨gu, ou + q, none⟩ = some (.int .i64 xn) := hcq
            have hcu2 := HCU.out nq
            clear HO HOW hbw hlk hcu hcq HCU b1' hcc
            generalize wr.drewN nq = wq at *
            go_wp2_with (first
              | (at_builtin; refine wpList_append_rd _ rfl (.tmp 37) (.tmp 45) 22 rfl Lk 3 i0 (.int .i64 0) 1 8 Tryz.underlying22 Hi0.out HI.out.1 HI.out.2.1 HI.out.2.2 rfl (by omega) u6 ol.length (ints ol) rfl (HOW2.out.alloc _) (wq.heap.size + 1) (some ⟨wq.heap.size, 0, none⟩) 1 1 [.int .i64 xn] rfl (Rd.blk (cs := #[.int .i64 xn]) (blk_new _ _) rfl (by omega)) (by simp [Value.oneCell']) (by omega) (by simp; omega) ?_
                 intro v5 w5 hown5 hg5 hat5
                 have hb45 := below_new wq (.cells #[.int .i64 xn] 3)
                 have HO5 := Lib.hid ((HO2.out.below hb45).grownI (HOW2.out.alloc _) hg5)
                 have hb5 : Below w1.heap.size w1 w5 := (hbw2.trans (hb45.mono (by omega))).grown hg5 (by simp; omega) (fun g e => by have := own_ge HOW2.out g e; omega)
                 have hlk5 : Lk ≤ w5.heap.size := Nat.le_trans hlk2 (Nat.le_trans (by simp) hg5.size)
                 have HOW5 := Lib.hid hown5
                 clear hown5 hg5 hat5 hb45 HO2 HOW2 hbw2 hlk2))
            go_roundw
            case rel => exact ⟨q + 1, by omega, by go_num, HO5, by rw [HE.out]; exact Lib.hid (by simpa [ints] using HOW5.out), hb5, hlk5⟩
            case measure => simp [intOf]; omega
          · have HE : Hid ((l.take (q + 1)).filter (fun x => decide (r.cls x = 0)) = ol) := Lib.hid (by rw [HTK.out, HCX.out, if_neg hc0]; simp)
            have kc := beq_f hc0
            go_wp2
            go_quiet (fail)
            have HO2 := Lib.hid (HO.out.below (below_drewN (Below.refl _ _) nq))
            have HOW2 : Hid ((wr.drewN nq).ownsRow Lk 3 1 u6 ol.length (ints ol)) := Lib.hid HOW.out
            have hbw2 : Below w1.heap.size w1 (wr.drewN nq) := below_drewN hbw nq
            have hlk2 : Lk ≤ (wr.drewN nq).heap.size := hlk
            clear HO HOW hbw hlk hcu hcq HCU b1' hcc
            generalize wr.drewN nq = wq at *
            go_wp2
            go_roundw
            case rel => exact ⟨q + 1, by omega, by go_num, HO2, by rw [HE.out]; exact HOW2, hbw2, hlk2⟩
            case measure => simp [intOf]; omega
        · obtain rfl : nl = q := by omega
          have HOW2 : Hid (wr.ownsRow Lk 3 1 u6 (r.maps k).length (ints (r.maps k))) := Lib.hid (by
            have h := HOW.out
            rw [List.take_of_length_le (by rw [HNL.out]; omega), ← HMP.out] at h
            exact h)
          obtain ⟨A6, c6, hv6⟩ := own_form HOW2.out
          subst hv6
          have HONE6 : Hid (∀ u ∈ [Value.slice A6 (r.maps k).length c6], u.oneCell' = true) := Lib.hid (by simp [Value.oneCell'])
          clear HOW
          go_wp2_with (first
            | (at_builtin; refine wpList_append_rd _ rfl (.tmp 47) (.tmp 49) 43 rfl w1.heap.size 22 j0 (.slice none 0 0) 1 24 Tryz.underlying43 Hj0.out HJ.out.1 HJ.out.2.1 HJ.out.2.2 rfl (by omega) u4 k (tabV k vs) rfl (HO.out.own.alloc _) (wr.heap.size + 1) (some ⟨wr.heap.size, 0, none⟩) 1 1 [.slice A6 (r.maps k).length c6] rfl (Rd.blk (cs := #[.slice A6 (r.maps k).length c6]) (blk_new _ _) rfl (by omega)) HONE6.out (by omega) (by have := hbw.size; simp; omega) ?_
               intro v5 w5 hown5 hg5 hat5
               have hb45 := below_new wr (.cells #[.slice A6 (r.maps k).length c6] 22)
               have HO5 := Lib.hid (((HO.out.below hb45).add hL (HOW2.out.alloc _) hown5) hg5)
               have hb5 : Below w1.heap.size w1 w5 := (hbw.trans (hb45.mono hbw.size)).grown hg5 (by have := hbw.size; simp; omega) (fun g e => by have := own_ge HO.out.own g e; omega)
               clear hown5 hg5 hat5 hb45 HO HOW2))
          go_roundw
          case rel => exact ⟨k + 1, w5.heap.size, _, by omega, by go_num, HO5, hb5, Nat.le_refl _, hb5.size⟩
          case measure => simp [intOf]; omega
    · obtain rfl : n = k := by omega
      have HD := Lib.hid HO.out.done
      have hbz2 : Below w.heap.size w wr := hbz1.trans (hbw.mono (by omega))
      clear HO
      go_wp2
      go_ret
      exact ⟨.inr ⟨HOK.out, _, rfl, by rw [HPM.out]; exact HD.out⟩, hbz2⟩
end Go.Proofs.YtdjldmpfginkdaaGreatDoor
