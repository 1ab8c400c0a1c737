/- Contracts of Compare, Equal, TermCompare, TermEqual. -/
import Derived.Test.YtdbflfakocaapaaDoorCmp
import Derived.Test.YtdbflfakocaapaaDoorHeld
namespace Go.Proofs.YtdbflfakocaapaaDoor
open Go.RowKit
attribute [local go_sem ↓] Go.wp_at_zero Go.wp_at_succ

theorem four_ints (W : World) (a b c d : Int) : IsInts (W.alloc (.cells #[.int .i64 a, .int .i64 b, .int .i64 c, .int .i64 d] 3)) (W.heap.size + 1) [a, b, c, d] (.slice (some ⟨W.heap.size, 0, none⟩) 4 4) :=
  ⟨_, 4, rfl, by simp, by decide, fun h => (by cases h), fun a ha => (by cases ha; rfl), Rd.blk (cs := #[.int .i64 a, .int .i64 b, .int .i64 c, .int .i64 d]) (blk_new _ _) rfl (by omega)⟩

theorem cI_ne {a b : Int} (h : ¬ a = b) : cI a b = if decide (a < b) = true then -1 else 1 := by unfold cI; simp only [decide_eq_true_eq]; (repeat' split) <;> omega
theorem cS_ne {a b : ByteArray} (h : ¬ a.toList = b.toList) : cS a b = if Op.bytesLess a.toList b.toList = true then -1 else 1 := by
  rcases cS_cases a b with ⟨e, h1⟩ | ⟨e, h1⟩ | ⟨e, h1⟩
  · rw [e, if_pos h1]
  · exact absurd h1 h
  · rw [e, if_neg (by rw [bl_asymm h1]; decide)]
theorem or0_ne {a b c : Int} (h : a = c) (hc : ¬ c = 0) : or0 a b = c := by unfold or0; rw [h, if_neg hc]
theorem or0_eq {a b c : Int} (h : a = 0) (hb : b = c) : or0 a b = c := by unfold or0; rw [h, if_pos rfl, hb]
theorem pm_ne (b : Bool) : ¬ (if b = true then (-1 : Int) else 1) = 0 := by cases b <;> decide
theorem Ty.cmp_k {a b : Ty} (h : ¬ a.kind = b.kind) : a.cmp b = if decide (a.kind < b.kind) = true then -1 else 1 := by
  rw [Ty.cmp_eq]; unfold Ty.hd hd4
  exact or0_ne (or0_ne (cI_ne h) (pm_ne _)) (pm_ne _)
theorem Ty.cmp_n {a b : Ty} (h1 : a.kind = b.kind) (h : ¬ a.name.toList = b.name.toList) : a.cmp b = if Op.bytesLess a.name.toList b.name.toList = true then -1 else 1 := by
  rw [Ty.cmp_eq]; unfold Ty.hd hd4
  exact or0_ne (or0_eq ((cI_zero _ _).2 h1) (or0_ne (cS_ne h) (pm_ne _))) (pm_ne _)
theorem Ty.cmp_i {a b : Ty} (h1 : a.kind = b.kind) (h2 : a.name.toList = b.name.toList) (h : ¬ a.index = b.index) : a.cmp b = if decide (a.index < b.index) = true then -1 else 1 := by
  rw [Ty.cmp_eq]; unfold Ty.hd hd4
  exact or0_ne (or0_eq ((cI_zero _ _).2 h1) (or0_eq (cS_eq h2) (or0_ne (cI_ne h) (pm_ne _)))) (pm_ne _)
theorem Ty.cmp_l {a b : Ty} (h1 : a.kind = b.kind) (h2 : a.name.toList = b.name.toList) (h3 : a.index = b.index) (h : ¬ (a.args.length : Int) = b.args.length) : a.cmp b = if decide ((a.args.length : Int) < b.args.length) = true then -1 else 1 := by
  rw [Ty.cmp_eq]; unfold Ty.hd hd4
  exact or0_ne (or0_eq ((cI_zero _ _).2 h1) (or0_eq (cS_eq h2) (or0_eq ((cI_zero _ _).2 h3) (cI_ne h)))) (pm_ne _)
theorem Ty.cmp_0 {a b : Ty} (h1 : a.kind = b.kind) (h2 : a.name.toList = b.name.toList) (h3 : a.index = b.index) (h : (a.args.length : Int) = b.args.length) : a.cmpTo b 0 = 0 := by
  rw [Ty.cmpTo_zero]; unfold Ty.hd hd4
  exact or0_eq ((cI_zero _ _).2 h1) (or0_eq (cS_eq h2) (or0_eq ((cI_zero _ _).2 h3) ((cI_zero _ _).2 h)))



set_option maxHeartbeats 4000000 in
theorem c_Compare (N : Nat) : ∀ (a b : Ty) (w : World) (La Ba Lb Bb : Nat) (va vb : Value), a.size ≤ N → IsTy w La Ba a va → IsTy w Lb Bb b vb → Ba ≤ w.heap.size → Bb ≤ w.heap.size → a.size ≤ 2 ^ 60 →
    Calls Tryd.prog 35 #[va, vb] w fun e w' => e = .returned (.int .i64 (a.cmp b)) ∧ Below w.heap.size w w' := by
  induction N with
  | zero => intro a b w _ _ _ _ _ _ h; have := a.size_pos; omega
  | succ N ih =>
  intro a b w La Ba Lb Bb va vb hN hta htb hBa hBb hM
  obtain ⟨A1, c1, rfl, hva⟩ := hta.args_
  obtain ⟨A2, c2, rfl, hvb⟩ := htb.args_
  clear hta htb
  have hsz := a.size_eq
  have hl := Ty.len_le a.args
  have HSG : Hid (∀ (j : Nat) (x : Ty), a.args[j]? = some x → x.size ≤ Ty.sizes a.args) := Lib.hid (fun j x hx => by obtain ⟨h, rfl⟩ := List.getElem?_eq_some_iff.1 hx; exact Ty.size_get j h)
  have HS : Hid (∀ (j : Nat), a.cmpTo b j = 0 → ∀ x y : Ty, a.args[j]? = some x → b.args[j]? = some y → a.cmpTo b (j + 1) = x.cmp y) := Lib.hid (fun j h x y hx hy => by obtain ⟨h1, rfl⟩ := List.getElem?_eq_some_iff.1 hx; obtain ⟨h2, rfl⟩ := List.getElem?_eq_some_iff.1 hy; exact Ty.cmpTo_succ a b j h h1 h2)
  have HST := Lib.hid (Ty.cmpTo_stop a b)
  have HEND := Lib.hid (Ty.cmpTo_end a b)
  have HLEN := Lib.hid (Ty.cmpTo_len a b)
  have H0 : Hid (orL [cI a.kind b.kind, cS a.name b.name, cI a.index b.index, cI a.args.length b.args.length] = a.cmpTo b 0) := Lib.hid (by rw [Ty.cmpTo_zero]; unfold Ty.hd hd4; simp only [orL]; congr 1; congr 1; congr 1; unfold or0; split <;> simp [*])
  have HK := Lib.hid (@Ty.cmp_k a b)
  have HNM := Lib.hid (@Ty.cmp_n a b)
  have HIX := Lib.hid (@Ty.cmp_i a b)
  have HLN := Lib.hid (@Ty.cmp_l a b)
  have HZ := Lib.hid (@Ty.cmp_0 a b)
  have HVA := Lib.hid hva
  have HVB := Lib.hid hvb
  have IH := Lib.hid ih
  clear ih hva hvb
  generalize a.cmp b = res, a.cmpTo b = CT at *
  generalize a.kind = ka, a.name = na, a.index = ia, b.kind = kb, b.name = nb, b.index = ib at *
  generalize a.args = xa, b.args = xb at *
  generalize hla : xa.length = n at *
  generalize hlb : xb.length = m at *
  have HLA := Lib.hid hla
  have HLB := Lib.hid hlb
  clear hla hlb
  have HBX := Lib.hid (box_alloc2 w (.int .i64 ka) (.string na) (.int .i64 ia) (.slice A1 n c1) (.int .i64 kb) (.string nb) (.int .i64 ib) (.slice A2 m c2) 25)
  have hbW : Below w.heap.size w ((w.alloc (.cells #[.int .i64 ka, .string na, .int .i64 ia, .slice A1 n c1] 25)).alloc (.cells #[.int .i64 kb, .string nb, .int .i64 ib, .slice A2 m c2] 25)) := below_step (below_new _ _) (below_new _ _)
  have hlt1 : w.heap.size + 1 < ((w.alloc (.cells #[.int .i64 ka, .string na, .int .i64 ia, .slice A1 n c1] 25)).alloc (.cells #[.int .i64 kb, .string nb, .int .i64 ib, .slice A2 m c2] 25)).heap.size := by simp
  have hx0 : Hid (∀ W : World, W = ((w.alloc (.cells #[.int .i64 ka, .string na, .int .i64 ia, .slice A1 n c1] 25)).alloc (.cells #[.int .i64 kb, .string nb, .int .i64 ib, .slice A2 m c2] 25)) → (W.cell? ⟨w.heap.size, 0, none⟩ = some (.int .i64 ka) ∧ W.cell? ⟨w.heap.size, 1, none⟩ = some (.string na) ∧ W.cell? ⟨w.heap.size, 2, none⟩ = some (.int .i64 ia) ∧ W.cell? ⟨w.heap.size, 3, none⟩ = some (.slice A1 n c1)) ∧ (W.cell? ⟨w.heap.size + 1, 0, none⟩ = some (.int .i64 kb) ∧ W.cell? ⟨w.heap.size + 1, 1, none⟩ = some (.string nb) ∧ W.cell? ⟨w.heap.size + 1, 2, none⟩ = some (.int .i64 ib) ∧ W.cell? ⟨w.heap.size + 1, 3, none⟩ = some (.slice A2 m c2)) ∧ Below w.heap.size w W ∧ w.heap.size + 1 < W.heap.size) := Lib.hid (fun W hW => by subst hW; exact ⟨HBX.out.1, HBX.out.2, hbW, hlt1⟩)
  clear hbW hlt1 HBX
  go_enter Tryd.func35, Tryd.ntmps35
  go_wp2
  generalize hW : (w.alloc _).alloc _ = W
  obtain ⟨hb1, hb2, hbW, hlW⟩ := hx0.out W hW.symm
  clear hx0 hW
  have SK := Lib.hid (box_sk2 hb1 hb2 (by omega) hlW)
  clear hb1 hb2
  go_region_held3 (fun W' : World => Below W.heap.size W W' ∧ (W'.cell? ⟨w.heap.size, 0, none⟩ = some (.int .i64 ka) ∧ W'.cell? ⟨w.heap.size, 1, none⟩ = some (.string na) ∧ W'.cell? ⟨w.heap.size, 2, none⟩ = some (.int .i64 ia) ∧ W'.cell? ⟨w.heap.size, 3, none⟩ = some (.slice A1 n c1)) ∧ (W'.cell? ⟨w.heap.size + 1, 0, none⟩ = some (.int .i64 kb) ∧ W'.cell? ⟨w.heap.size + 1, 1, none⟩ = some (.string nb) ∧ W'.cell? ⟨w.heap.size + 1, 2, none⟩ = some (.int .i64 ib) ∧ W'.cell? ⟨w.heap.size + 1, 3, none⟩ = some (.slice A2 m c2)))
    (first | exact SK.out _ (below_drew _) | assumption | exact SK.out _ (below_step (And.left (by assumption)) (below_new _ _)))
    (first
    | (go_at_call 62; refine (c_cmpI _ _ _).mono ?_; rintro e w' ⟨rfl, rfl⟩)
    | (go_at_call 63; refine (c_cmpS _ _ _).mono ?_; rintro e w' ⟨rfl, rfl⟩)
    | (go_at_call 61; refine (c_Or [cI ka kb, cS na nb, cI ia ib, cI n m] _ _ (W.heap.size + 1) ?hh ?hn).mono ?_; (case hh => exact four_ints _ _ _ _ _); (case hn => simp); rintro e w' ⟨rfl, rfl⟩))
  go_wp2
  rw [H0.out]
  go_loopw [5, 6] (fun s5 s6 wr => ∃ j : Nat, j ≤ n ∧ s6 = .int .i64 j ∧ s5 = .int .i64 (CT j) ∧ Below W.heap.size W wr) (fun _ i _ => n - (intOf i).toNat)
  case atStart => exact ⟨0, by omega, rfl, rfl, below_step (below_new _ _) (below_drew _)⟩
  case round =>
    obtain ⟨j, hj, rfl, rfl, hbr⟩ := hrel
    have hbw : Below w.heap.size w wr := hbW.trans (hbr.mono hbW.size)
    obtain ⟨_, ⟨_, _, _, x3⟩, _, _, _, y3⟩ := SK.out wr hbr
    have hsr := hbr.size
    by_cases hc : CT j = 0
    · have hc' : (CT j == 0) = true := by rw [hc]; rfl
      have hnm := HLEN.out j hc
      by_cases hjn : j < n
      · skip
        obtain ⟨g1, o1, A1', c1', hj1, rfl, hg1a, hg1b, k0, k1, k2, k3, ht1⟩ := HVA.out.at_ (KeepIn.of_below hbw hBa) hjn
        obtain ⟨g2, o2, A2', c2', hj2, rfl, hg2a, hg2b, l0, l1, l2, l3, ht2⟩ := HVB.out.at_ (KeepIn.of_below hbw hBb) (j := j) (by omega)
        have hsg := HSG.out j _ (List.getElem?_eq_getElem hj1)
        have HT1 := Lib.hid ht1
        have HT2 := Lib.hid ht2
        clear ht1 ht2
        have hz : True := trivial
        have hcm := Lib.hid (HS.out j hc _ _ (List.getElem?_eq_getElem hj1) (List.getElem?_eq_getElem hj2))
        generalize xa[j] = ta, xb[j] = tb at *
        have hj0 : (0 : Int) ≤ (j : Int) := by omega
        have hjn1 : (j : Int) < (n : Int) := by omega
        have hjm1 : (j : Int) < (m : Int) := by omega
        generalize ta.kind = kx, ta.name = nx, ta.index = ix, ta.args.length = lx at *
        generalize tb.kind = ky, tb.name = ny, tb.index = iy, tb.args.length = ly at *
        have SK2 : Hid (∀ W' : World, Below wr.heap.size wr W' → Below wr.heap.size wr W' ∧ W'.cell? ⟨w.heap.size, 3, none⟩ = some (.slice (some ⟨g1, o1, none⟩) n c1) ∧ W'.cell? ⟨w.heap.size + 1, 3, none⟩ = some (.slice (some ⟨g2, o2, none⟩) m c2) ∧
            (W'.cell? ⟨g1, o1 + j * 4, none⟩ = some (.int .i64 kx) ∧ W'.cell? ⟨g1, o1 + j * 4 + 1, none⟩ = some (.string nx) ∧ W'.cell? ⟨g1, o1 + j * 4 + 2, none⟩ = some (.int .i64 ix) ∧ W'.cell? ⟨g1, o1 + j * 4 + 3, none⟩ = some (.slice A1' lx c1')) ∧
            (W'.cell? ⟨g2, o2 + j * 4, none⟩ = some (.int .i64 ky) ∧ W'.cell? ⟨g2, o2 + j * 4 + 1, none⟩ = some (.string ny) ∧ W'.cell? ⟨g2, o2 + j * 4 + 2, none⟩ = some (.int .i64 iy) ∧ W'.cell? ⟨g2, o2 + j * 4 + 3, none⟩ = some (.slice A2' ly c2'))) := Lib.hid (fun W' hb =>
          ⟨hb, by rw [hb.cell (by show w.heap.size < _; omega)]; exact x3, by rw [hb.cell (by show w.heap.size + 1 < _; omega)]; exact y3,
            ⟨by rw [hb.cell (by show g1 < _; omega)]; exact k0, by rw [hb.cell (by show g1 < _; omega)]; exact k1, by rw [hb.cell (by show g1 < _; omega)]; exact k2, by rw [hb.cell (by show g1 < _; omega)]; exact k3⟩,
            ⟨by rw [hb.cell (by show g2 < _; omega)]; exact l0, by rw [hb.cell (by show g2 < _; omega)]; exact l1, by rw [hb.cell (by show g2 < _; omega)]; exact l2, by rw [hb.cell (by show g2 < _; omega)]; exact l3⟩⟩)
        have hsbw := hbw.size
        clear hz hc hnm
        go_wp2
        go_region_held3 (fun W' : World => Below wr.heap.size wr W' ∧ W'.cell? ⟨w.heap.size, 3, none⟩ = some (.slice (some ⟨g1, o1, none⟩) n c1) ∧ W'.cell? ⟨w.heap.size + 1, 3, none⟩ = some (.slice (some ⟨g2, o2, none⟩) m c2) ∧
            (W'.cell? ⟨g1, o1 + j * 4, none⟩ = some (.int .i64 kx) ∧ W'.cell? ⟨g1, o1 + j * 4 + 1, none⟩ = some (.string nx) ∧ W'.cell? ⟨g1, o1 + j * 4 + 2, none⟩ = some (.int .i64 ix) ∧ W'.cell? ⟨g1, o1 + j * 4 + 3, none⟩ = some (.slice A1' lx c1')) ∧
            (W'.cell? ⟨g2, o2 + j * 4, none⟩ = some (.int .i64 ky) ∧ W'.cell? ⟨g2, o2 + j * 4 + 1, none⟩ = some (.string ny) ∧ W'.cell? ⟨g2, o2 + j * 4 + 2, none⟩ = some (.int .i64 iy) ∧ W'.cell? ⟨g2, o2 + j * 4 + 3, none⟩ = some (.slice A2' ly c2')))
          (first | exact SK2.out _ (below_drew _) | exact SK2.out _ hbq)
          (first
          | (go_at_call 35; refine (IH.out ta tb _ La Ba Lb Bb _ _ ?h1 (HT1.out.below (below_drew _) ?h2) (HT2.out.below (below_drew _) ?h3) ?h4 ?h5 ?h6).mono ?_
             (case h1 => omega); (case h2 => omega); (case h3 => omega); (case h4 => (simp; omega)); (case h5 => (simp; omega)); (case h6 => omega)
             rintro e wq ⟨rfl, hb'⟩
             have hbq : Below wr.heap.size wr wq := below_step (below_drew _) hb'
             clear hb'))
        go_wp2
        go_roundw
        case rel => exact ⟨j + 1, by omega, by go_num, by rw [hcm.out], hbr.trans (hbq.mono hbr.size)⟩
        case measure => simp [intOf]; omega
      · obtain rfl : j = n := by omega
        have hz2 := Lib.hid (HEND.out hc)
        have hch := Lib.hid hc
        clear hnm hc
        go_wp2
        go_ret
        exact ⟨ret_int (by rw [hz2.out]; exact hch.out), hbw⟩
    · have hc' : (CT j == 0) = false := by rw [beq_eq_false_iff_ne]; exact hc
      have hz2 := Lib.hid (HST.out j hc)
      go_wp2
      go_ret
      exact ⟨ret_int (by rw [hz2.out]), hbw⟩
set_option maxHeartbeats 4000000 in
theorem c_TermCompare (N : Nat) : ∀ (a b : Ty) (w : World) (La Ba Lb Bb : Nat) (va vb : Value), a.size ≤ N → IsTy w La Ba a va → IsTy w Lb Bb b vb → Ba ≤ w.heap.size → Bb ≤ w.heap.size → a.size ≤ 2 ^ 60 →
    Calls Tryd.prog 36 #[va, vb] w fun e w' => e = .returned (.int .i64 (a.cmp b)) ∧ Below w.heap.size w w' := by
  induction N with
  | zero => intro a b w _ _ _ _ _ _ h; have := a.size_pos; omega
  | succ N ih =>
  intro a b w La Ba Lb Bb va vb hN hta htb hBa hBb hM
  obtain ⟨A1, c1, rfl, hva⟩ := hta.args_
  obtain ⟨A2, c2, rfl, hvb⟩ := htb.args_
  clear hta htb
  have hsz := a.size_eq
  have hl := Ty.len_le a.args
  have HSG : Hid (∀ (j : Nat) (x : Ty), a.args[j]? = some x → x.size ≤ Ty.sizes a.args) := Lib.hid (fun j x hx => by obtain ⟨h, rfl⟩ := List.getElem?_eq_some_iff.1 hx; exact Ty.size_get j h)
  have HS : Hid (∀ (j : Nat), a.cmpTo b j = 0 → ∀ x y : Ty, a.args[j]? = some x → b.args[j]? = some y → a.cmpTo b (j + 1) = x.cmp y) := Lib.hid (fun j h x y hx hy => by obtain ⟨h1, rfl⟩ := List.getElem?_eq_some_iff.1 hx; obtain ⟨h2, rfl⟩ := List.getElem?_eq_some_iff.1 hy; exact Ty.cmpTo_succ a b j h h1 h2)
  have HST := Lib.hid (Ty.cmpTo_stop a b)
  have HEND := Lib.hid (Ty.cmpTo_end a b)
  have HLEN := Lib.hid (Ty.cmpTo_len a b)
  have H0 : Hid (orL [cI a.kind b.kind, cS a.name b.name, cI a.index b.index, cI a.args.length b.args.length] = a.cmpTo b 0) := Lib.hid (by rw [Ty.cmpTo_zero]; unfold Ty.hd hd4; simp only [orL]; congr 1; congr 1; congr 1; unfold or0; split <;> simp [*])
  have HK := Lib.hid (@Ty.cmp_k a b)
  have HNM := Lib.hid (@Ty.cmp_n a b)
  have HIX := Lib.hid (@Ty.cmp_i a b)
  have HLN := Lib.hid (@Ty.cmp_l a b)
  have HZ := Lib.hid (@Ty.cmp_0 a b)
  have HVA := Lib.hid hva
  have HVB := Lib.hid hvb
  have IH := Lib.hid ih
  clear ih hva hvb
  generalize a.cmp b = res, a.cmpTo b = CT at *
  generalize a.kind = ka, a.name = na, a.index = ia, b.kind = kb, b.name = nb, b.index = ib at *
  generalize a.args = xa, b.args = xb at *
  generalize hla : xa.length = n at *
  generalize hlb : xb.length = m at *
  have HLA := Lib.hid hla
  have HLB := Lib.hid hlb
  clear hla hlb
  have HBX := Lib.hid (box_alloc2 w (.int .i64 ka) (.string na) (.int .i64 ia) (.slice A1 n c1) (.int .i64 kb) (.string nb) (.int .i64 ib) (.slice A2 m c2) 25)
  have hbW : Below w.heap.size w ((w.alloc (.cells #[.int .i64 ka, .string na, .int .i64 ia, .slice A1 n c1] 25)).alloc (.cells #[.int .i64 kb, .string nb, .int .i64 ib, .slice A2 m c2] 25)) := below_step (below_new _ _) (below_new _ _)
  have hlt1 : w.heap.size + 1 < ((w.alloc (.cells #[.int .i64 ka, .string na, .int .i64 ia, .slice A1 n c1] 25)).alloc (.cells #[.int .i64 kb, .string nb, .int .i64 ib, .slice A2 m c2] 25)).heap.size := by simp
  have hx0 : Hid (∀ W : World, W = ((w.alloc (.cells #[.int .i64 ka, .string na, .int .i64 ia, .slice A1 n c1] 25)).alloc (.cells #[.int .i64 kb, .string nb, .int .i64 ib, .slice A2 m c2] 25)) → (W.cell? ⟨w.heap.size, 0, none⟩ = some (.int .i64 ka) ∧ W.cell? ⟨w.heap.size, 1, none⟩ = some (.string na) ∧ W.cell? ⟨w.heap.size, 2, none⟩ = some (.int .i64 ia) ∧ W.cell? ⟨w.heap.size, 3, none⟩ = some (.slice A1 n c1)) ∧ (W.cell? ⟨w.heap.size + 1, 0, none⟩ = some (.int .i64 kb) ∧ W.cell? ⟨w.heap.size + 1, 1, none⟩ = some (.string nb) ∧ W.cell? ⟨w.heap.size + 1, 2, none⟩ = some (.int .i64 ib) ∧ W.cell? ⟨w.heap.size + 1, 3, none⟩ = some (.slice A2 m c2)) ∧ Below w.heap.size w W ∧ w.heap.size + 1 < W.heap.size) := Lib.hid (fun W hW => by subst hW; exact ⟨HBX.out.1, HBX.out.2, hbW, hlt1⟩)
  clear hbW hlt1 HBX
  have hord : Hid (∀ (b : Bool) (w : World), Calls Tryd.prog 64 #[.bool b] w fun e w' => e = .returned (.int .i64 (if b = true then -1 else 1)) ∧ w' = w) := Lib.hid c_order
  by_cases hk : ka = kb
  case neg =>
    have hz := Lib.hid (HK.out hk)
    have hk1 : (ka == kb) = false := by rw [beq_eq_false_iff_ne]; exact hk
    go_enter Tryd.func36, Tryd.ntmps36
    go_wp2_with (first | (go_at_call 64; refine (hord.out _ _).mono ?_; rintro e w' ⟨rfl, rfl⟩))
    all_goals
      go_ret
      refine ⟨ret_int ?_, below_step (below_new _ _) (below_new _ _)⟩
      rw [hz.out]
      first
      | rw [if_pos (by first | assumption | (rw [decide_eq_true_eq]; omega))]
      | rw [if_neg (by first | assumption | (rw [decide_eq_true_eq]; omega))]
  have hk1 : (ka == kb) = true := by rw [beq_iff_eq]; exact hk
  have HK1 := Lib.hid hk
  clear hk
  by_cases hk : na.toList = nb.toList
  case neg =>
    have hz := Lib.hid (HNM.out HK1.out hk)
    have hk2 : (na.toList == nb.toList) = false := by rw [beq_eq_false_iff_ne]; exact hk
    go_enter Tryd.func36, Tryd.ntmps36
    go_wp2_with (first | (go_at_call 64; refine (hord.out _ _).mono ?_; rintro e w' ⟨rfl, rfl⟩))
    all_goals
      go_ret
      refine ⟨ret_int ?_, below_step (below_new _ _) (below_new _ _)⟩
      rw [hz.out]
      first
      | rw [if_pos (by first | assumption | (rw [decide_eq_true_eq]; omega))]
      | rw [if_neg (by first | assumption | (rw [decide_eq_true_eq]; omega))]
  have hk2 : (na.toList == nb.toList) = true := by rw [beq_iff_eq]; exact hk
  have HK2 := Lib.hid hk
  clear hk
  by_cases hk : ia = ib
  case neg =>
    have hz := Lib.hid (HIX.out HK1.out HK2.out hk)
    have hk3 : (ia == ib) = false := by rw [beq_eq_false_iff_ne]; exact hk
    go_enter Tryd.func36, Tryd.ntmps36
    go_wp2_with (first | (go_at_call 64; refine (hord.out _ _).mono ?_; rintro e w' ⟨rfl, rfl⟩))
    all_goals
      go_ret
      refine ⟨ret_int ?_, below_step (below_new _ _) (below_new _ _)⟩
      rw [hz.out]
      first
      | rw [if_pos (by first | assumption | (rw [decide_eq_true_eq]; omega))]
      | rw [if_neg (by first | assumption | (rw [decide_eq_true_eq]; omega))]
  have hk3 : (ia == ib) = true := by rw [beq_iff_eq]; exact hk
  have HK3 := Lib.hid hk
  clear hk
  by_cases hk : (n : Int) = (m : Int)
  case neg =>
    have hz := Lib.hid (HLN.out HK1.out HK2.out HK3.out hk)
    have hk4 : ((n : Int) == (m : Int)) = false := by rw [beq_eq_false_iff_ne]; exact hk
    go_enter Tryd.func36, Tryd.ntmps36
    go_wp2_with (first | (go_at_call 64; refine (hord.out _ _).mono ?_; rintro e w' ⟨rfl, rfl⟩))
    all_goals
      go_ret
      refine ⟨ret_int ?_, below_step (below_new _ _) (below_new _ _)⟩
      rw [hz.out]
      first
      | rw [if_pos (by first | assumption | (rw [decide_eq_true_eq]; omega))]
      | rw [if_neg (by first | assumption | (rw [decide_eq_true_eq]; omega))]
  have hk4 : ((n : Int) == (m : Int)) = true := by rw [beq_iff_eq]; exact hk
  have HZ0 := Lib.hid (HZ.out HK1.out HK2.out HK3.out hk)
  clear hk HK HNM HIX HLN HZ HK1 HK2 HK3 H0
  go_enter Tryd.func36, Tryd.ntmps36
  go_wp2
  generalize hW : (w.alloc _).alloc _ = W
  obtain ⟨hb1, hb2, hbW, hlW⟩ := hx0.out W hW.symm
  clear hx0 hW
  have SK := Lib.hid (box_sk2 hb1 hb2 (by omega) hlW)
  clear hb1 hb2 hk1 hk2 hk3 hk4 hord
  generalize (ka != kb) = q1, (ia != ib) = q2, ((n : Int) != (m : Int)) = q3
  go_loopw [5, 6] (fun s5 _ wr => ∃ j : Nat, j ≤ n ∧ s5 = .int .i64 j ∧ Hid (CT j = 0) ∧ Below W.heap.size W wr) (fun i _ _ => n - (intOf i).toNat)
  case atStart => exact ⟨0, by omega, rfl, HZ0, Below.refl _ _⟩
  case round =>
    obtain ⟨j, hj, rfl, hc, hbr⟩ := hrel
    have hbw : Below w.heap.size w wr := hbW.trans (hbr.mono hbW.size)
    obtain ⟨_, ⟨_, _, _, x3⟩, _, _, _, y3⟩ := SK.out wr hbr
    have hsr := hbr.size
    have hnm := HLEN.out j hc.out
    by_cases hjn : j < n
    · skip
      obtain ⟨g1, o1, A1', c1', hj1, rfl, hg1a, hg1b, k0, k1, k2, k3, ht1⟩ := HVA.out.at_ (KeepIn.of_below hbw hBa) hjn
      obtain ⟨g2, o2, A2', c2', hj2, rfl, hg2a, hg2b, l0, l1, l2, l3, ht2⟩ := HVB.out.at_ (KeepIn.of_below hbw hBb) (j := j) (by omega)
      have hsg := HSG.out j _ (List.getElem?_eq_getElem hj1)
      have HT1 := Lib.hid ht1
      have HT2 := Lib.hid ht2
      clear ht1 ht2
      have hz : True := trivial
      have hcm := Lib.hid (HS.out j hc.out _ _ (List.getElem?_eq_getElem hj1) (List.getElem?_eq_getElem hj2))
      have hst := Lib.hid (HST.out (j + 1))
      generalize xa[j] = ta, xb[j] = tb at *
      have hj0 : (0 : Int) ≤ (j : Int) := by omega
      have hjn1 : (j : Int) < (n : Int) := by omega
      have hjm1 : (j : Int) < (m : Int) := by omega
      generalize ta.kind = kx, ta.name = nx, ta.index = ix, ta.args.length = lx at *
      generalize tb.kind = ky, tb.name = ny, tb.index = iy, tb.args.length = ly at *
      have SK2 : Hid (∀ W' : World, Below wr.heap.size wr W' → Below wr.heap.size wr W' ∧ W'.cell? ⟨w.heap.size, 3, none⟩ = some (.slice (some ⟨g1, o1, none⟩) n c1) ∧ W'.cell? ⟨w.heap.size + 1, 3, none⟩ = some (.slice (some ⟨g2, o2, none⟩) m c2) ∧
          (W'.cell? ⟨g1, o1 + j * 4, none⟩ = some (.int .i64 kx) ∧ W'.cell? ⟨g1, o1 + j * 4 + 1, none⟩ = some (.string nx) ∧ W'.cell? ⟨g1, o1 + j * 4 + 2, none⟩ = some (.int .i64 ix) ∧ W'.cell? ⟨g1, o1 + j * 4 + 3, none⟩ = some (.slice A1' lx c1')) ∧
          (W'.cell? ⟨g2, o2 + j * 4, none⟩ = some (.int .i64 ky) ∧ W'.cell? ⟨g2, o2 + j * 4 + 1, none⟩ = some (.string ny) ∧ W'.cell? ⟨g2, o2 + j * 4 + 2, none⟩ = some (.int .i64 iy) ∧ W'.cell? ⟨g2, o2 + j * 4 + 3, none⟩ = some (.slice A2' ly c2'))) := Lib.hid (fun W' hb =>
        ⟨hb, by rw [hb.cell (by show w.heap.size < _; omega)]; exact x3, by rw [hb.cell (by show w.heap.size + 1 < _; omega)]; exact y3,
          ⟨by rw [hb.cell (by show g1 < _; omega)]; exact k0, by rw [hb.cell (by show g1 < _; omega)]; exact k1, by rw [hb.cell (by show g1 < _; omega)]; exact k2, by rw [hb.cell (by show g1 < _; omega)]; exact k3⟩,
          ⟨by rw [hb.cell (by show g2 < _; omega)]; exact l0, by rw [hb.cell (by show g2 < _; omega)]; exact l1, by rw [hb.cell (by show g2 < _; omega)]; exact l2, by rw [hb.cell (by show g2 < _; omega)]; exact l3⟩⟩)
      have hsbw := hbw.size
      rw [hcm.out] at hst
      clear hz hnm
      generalize hr : ta.cmp tb = r at *
      have hrh := Lib.hid hr
      clear hr
      go_wp2
      go_region_held3 (fun W' : World => Below wr.heap.size wr W' ∧ W'.cell? ⟨w.heap.size, 3, none⟩ = some (.slice (some ⟨g1, o1, none⟩) n c1) ∧ W'.cell? ⟨w.heap.size + 1, 3, none⟩ = some (.slice (some ⟨g2, o2, none⟩) m c2) ∧
          (W'.cell? ⟨g1, o1 + j * 4, none⟩ = some (.int .i64 kx) ∧ W'.cell? ⟨g1, o1 + j * 4 + 1, none⟩ = some (.string nx) ∧ W'.cell? ⟨g1, o1 + j * 4 + 2, none⟩ = some (.int .i64 ix) ∧ W'.cell? ⟨g1, o1 + j * 4 + 3, none⟩ = some (.slice A1' lx c1')) ∧
          (W'.cell? ⟨g2, o2 + j * 4, none⟩ = some (.int .i64 ky) ∧ W'.cell? ⟨g2, o2 + j * 4 + 1, none⟩ = some (.string ny) ∧ W'.cell? ⟨g2, o2 + j * 4 + 2, none⟩ = some (.int .i64 iy) ∧ W'.cell? ⟨g2, o2 + j * 4 + 3, none⟩ = some (.slice A2' ly c2')))
        (first | exact SK2.out _ (below_drew _) | exact SK2.out _ hbq)
        (first
        | (go_at_call 36; refine (IH.out ta tb _ La Ba Lb Bb _ _ ?h1 (HT1.out.below (below_drew _) ?h2) (HT2.out.below (below_drew _) ?h3) ?h4 ?h5 ?h6).mono ?_
           (case h1 => omega); (case h2 => omega); (case h3 => omega); (case h4 => (simp; omega)); (case h5 => (simp; omega)); (case h6 => omega)
           rintro e wq ⟨rfl, hb'⟩
           rw [hrh.out]
           have hbq : Below wr.heap.size wr wq := below_step (below_drew _) hb'
           clear hb'))
      by_cases hr0 : r = 0
      · have hr1 : (r == 0) = true := by rw [beq_iff_eq]; exact hr0
        have hn0 := Lib.hid (hcm.out.trans hr0)
        clear hr0
        go_wp2
        go_roundw
        case rel => exact ⟨j + 1, by omega, by go_num, hn0, hbr.trans (hbq.mono hbr.size)⟩
        case measure => simp [intOf]; omega
      · have hr1 : (r == 0) = false := by rw [beq_eq_false_iff_ne]; exact hr0
        have hn0 := Lib.hid (hst.out hr0)
        go_wp2
        go_ret
        exact ⟨ret_int (by rw [hn0.out]), hbw.trans (hbq.mono hbw.size)⟩
    · obtain rfl : j = n := by omega
      have hz2 := Lib.hid (HEND.out hc.out)
      clear hnm
      go_wp2
      go_ret
      exact ⟨ret_int (by rw [hz2.out]), hbw⟩
set_option maxHeartbeats 1000000 in
theorem c_Equal (a b : Ty) (w : World) (La Ba Lb Bb : Nat) (va vb : Value) (ha : IsTy w La Ba a va) (hb : IsTy w Lb Bb b vb) (hBa : Ba ≤ w.heap.size) (hBb : Bb ≤ w.heap.size) (hM : a.size ≤ 2 ^ 60) :
    Calls Tryd.prog 37 #[va, vb] w fun e w' => e = .returned (.bool (a.cmp b == 0)) ∧ Below w.heap.size w w' := by
  have HC := Lib.hid (fun (W : World) (hW : Below w.heap.size w W) => c_Compare a.size a b W La Ba Lb Bb va vb (Nat.le_refl _) (ha.below hW hBa) (hb.below hW hBb) (Nat.le_trans hBa hW.size) (Nat.le_trans hBb hW.size) hM)
  obtain ⟨A1, c1, rfl, _⟩ := ha.args_
  obtain ⟨A2, c2, rfl, _⟩ := hb.args_
  clear ha hb
  generalize a.cmp b = r at *
  generalize a.kind = ka, a.name = na, a.index = ia, b.kind = kb, b.name = nb, b.index = ib, a.args.length = n, b.args.length = m at *
  go_enter Tryd.func37, Tryd.ntmps37
  go_wp2_with fail
  refine (HC.out _ (below_step (below_new _ _) (below_new _ _))).mono ?_
  rintro e w' ⟨rfl, hb'⟩
  go_wp2
  go_ret
  exact ⟨rfl, (below_step (below_step (below_new _ _) (below_new _ _)) hb')⟩
set_option maxHeartbeats 1000000 in
theorem c_TermEqual (a b : Ty) (w : World) (La Ba Lb Bb : Nat) (va vb : Value) (ha : IsTy w La Ba a va) (hb : IsTy w Lb Bb b vb) (hBa : Ba ≤ w.heap.size) (hBb : Bb ≤ w.heap.size) (hM : a.size ≤ 2 ^ 60) :
    Calls Tryd.prog 39 #[va, vb] w fun e w' => e = .returned (.bool (a.cmp b == 0)) ∧ Below w.heap.size w w' := by
  have HC := Lib.hid (fun (W : World) (hW : Below w.heap.size w W) => c_TermCompare a.size a b W La Ba Lb Bb va vb (Nat.le_refl _) (ha.below hW hBa) (hb.below hW hBb) (Nat.le_trans hBa hW.size) (Nat.le_trans hBb hW.size) hM)
  obtain ⟨A1, c1, rfl, _⟩ := ha.args_
  obtain ⟨A2, c2, rfl, _⟩ := hb.args_
  clear ha hb
  generalize a.cmp b = r at *
  generalize a.kind = ka, a.name = na, a.index = ia, b.kind = kb, b.name = nb, b.index = ib, a.args.length = n, b.args.length = m at *
  go_enter Tryd.func39, Tryd.ntmps39
  go_wp2_with fail
  refine (HC.out _ (below_step (below_new _ _) (below_new _ _))).mono ?_
  rintro e w' ⟨rfl, hb'⟩
  go_wp2
  go_ret
  exact ⟨rfl, (below_step (below_step (below_new _ _) (below_new _ _)) hb')⟩
end Go.Proofs.YtdbflfakocaapaaDoor
