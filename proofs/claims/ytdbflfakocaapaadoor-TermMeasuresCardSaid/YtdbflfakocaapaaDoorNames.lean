/- Contracts of termNames, TermNames, collectNames, Names, SameInts, SameStrings. -/
import Derived.Test.YtdbflfakocaapaaDoorNamesP
import Derived.Test.YtdbflfakocaapaaDoorClosed
import Derived.Test.YtdbflfakocaapaaDoorCollect
namespace Go.Proofs.YtdbflfakocaapaaDoor
open Go.RowKit
attribute [local go_sem ↓] Go.wp_at_zero Go.wp_at_succ

set_option maxHeartbeats 2000000 in
theorem c_termNames (N : Nat) : ∀ (t : Ty) (l : List ByteArray) (w : World) (L B : Nat) (v vl : Value), t.size ≤ N → IsTy w L B t v → B ≤ w.heap.size → IsStrs w w.heap.size l vl → l.length + t.size ≤ 2 ^ 28 →
    Calls Tryd.prog 57 #[v, vl] w (RetStrs (insAllS l t.nms) w) := by
  induction N with
  | zero => intro t l w L B v vl h; have := t.size_pos; omega
  | succ N ih =>
  intro t l w L B v vl hN ht0 hB hl0 hM
  obtain ⟨A, c, rfl, hv⟩ := ht0.args_
  clear ht0
  rw [Ty.size_eq] at hN hM
  rw [Ty.nms_eq]
  have hl := Ty.len_le t.args
  rw [show (if t.kind = 2 then [t.name] else []) = nmHead t.kind t.name from rfl, insAllS_append]
  have hfh1 : Hid ((t.kind == 2) = true → nmHead t.kind t.name = [t.name]) := Lib.hid (fun h => by simp at h; simp [nmHead, h])
  have hfn1 : Hid ((t.kind == 2) = false → nmHead t.kind t.name = []) := Lib.hid (fun h => by simp at h; simp [nmHead, h])
  have hfl : (nmHead t.kind t.name).length ≤ 1 := by unfold nmHead; split <;> simp
  generalize nmHead t.kind t.name = fh at *
  generalize t.kind = k, t.name = nm, t.index = ix, t.args = args at *
  have HV := Lib.hid hv; clear hv
  have IH := Lib.hid ih; clear ih
  have HL := Lib.hid hl0; clear hl0
  generalize hn : args.length = n at *
  have Hn := Lib.hid hn; clear hn
  cases hk : (k == 2)
  · have HF := Lib.hid (hfn1.out hk)
    go_enter Tryd.func57, Tryd.ntmps57
    go_wp2
    have hx : (w.alloc (.cells #[.int .i64 k, .string nm, .int .i64 ix, .slice A n c] 25)).cell? ⟨w.heap.size, 0, none⟩ = some (.int .i64 k) ∧ (w.alloc (.cells #[.int .i64 k, .string nm, .int .i64 ix, .slice A n c] 25)).cell? ⟨w.heap.size, 1, none⟩ = some (.string nm) ∧ (w.alloc (.cells #[.int .i64 k, .string nm, .int .i64 ix, .slice A n c] 25)).cell? ⟨w.heap.size, 2, none⟩ = some (.int .i64 ix) ∧ (w.alloc (.cells #[.int .i64 k, .string nm, .int .i64 ix, .slice A n c] 25)).cell? ⟨w.heap.size, 3, none⟩ = some (.slice A n c) ∧ Below w.heap.size w (w.alloc (.cells #[.int .i64 k, .string nm, .int .i64 ix, .slice A n c] 25)) ∧ w.heap.size < (w.alloc (.cells #[.int .i64 k, .string nm, .int .i64 ix, .slice A n c] 25)).heap.size ∧ Hid (IsStrs (w.alloc (.cells #[.int .i64 k, .string nm, .int .i64 ix, .slice A n c] 25)) (w.alloc (.cells #[.int .i64 k, .string nm, .int .i64 ix, .slice A n c] 25)).heap.size (insAllS l fh) (vl)) := ⟨by simp, by simp, by simp, by simp, (Below.refl _ _).alloc (Nat.le_refl _) _, by simp, by rw [HF.out]; exact Lib.hid ((HL.out.below ((Below.refl _ _).alloc (Nat.le_refl _) _) (Nat.le_refl _)).more (by simp))⟩
    generalize w.alloc (.cells #[.int .i64 k, .string nm, .int .i64 ix, .slice A n c] 25) = W at *
    obtain ⟨b0, b1, b2, b3, hbW, hltW, HL1⟩ := hx
    go_loopw [1, 5] (fun s i wr => ∃ j : Nat, j ≤ n ∧ i = .int .i64 j ∧ Hid (IsStrs wr wr.heap.size (insAllS (insAllS l fh) (Ty.nmss (args.take j))) s) ∧ wr.cell? ⟨w.heap.size, 0, none⟩ = some (.int .i64 k) ∧ wr.cell? ⟨w.heap.size, 1, none⟩ = some (.string nm) ∧ wr.cell? ⟨w.heap.size, 2, none⟩ = some (.int .i64 ix) ∧ wr.cell? ⟨w.heap.size, 3, none⟩ = some (.slice A n c) ∧ Below w.heap.size w wr ∧ w.heap.size < wr.heap.size) (fun _ i _ => n - (intOf i).toNat)
    case atStart => exact ⟨0, by omega, rfl, HL1, b0, b1, b2, b3, hbW, hltW⟩
    case round =>
      clear b0 b1 b2 b3 hbW hltW
      obtain ⟨j, hj, rfl, HS, b0, b1, b2, b3, hb, hlt⟩ := hrel
      by_cases hjn : j < n
      · obtain ⟨g, o, A', c', hj', rfl, hg1, hg2, c0, c1, c2, c3, ht⟩ := HV.out.at_ (KeepIn.of_below hb hB) hjn
        have hg := Ty.size_get j hj'
        have HT := Lib.hid ht
        clear ht
        have hlen : (insAllS (insAllS l fh) (Ty.nmss (args.take j))).length + args[j].size ≤ 2 ^ 28 := by
          have e1 := insAllS_len (insAllS l fh) (Ty.nmss (args.take j))
          have e2 := insAllS_len l fh
          have e3 := Ty.nmss_len (args.take j)
          have e4 := Ty.sizes_take j hj'
          have e5 := Ty.sizes_take_le args (j + 1)
          omega
        have htk : Hid (insAllS (insAllS l fh) (Ty.nmss (args.take (j + 1))) = insAllS (insAllS (insAllS l fh) (Ty.nmss (args.take j))) (args[j].nms)) := Lib.hid (by rw [Ty.nmss_take args j hj', insAllS_append])
        generalize args[j] = tj at *
        generalize insAllS (insAllS l fh) (Ty.nmss (args.take j)) = l2 at *
        have hj0 : (0 : Int) ≤ (j : Int) := by omega
        have hj1 : (j : Int) < (n : Int) := by omega
        go_wp2_with fail
        refine (IH.out tj l2 _ L B _ _ (by omega) (HT.out.below (Below.refl _ _) (by omega)) (by omega) HS.out hlen).mono ?_
        rintro e w2 ⟨vr, rfl, hvr, hb2⟩
        have hs2 := hb2.size
        have HR := Lib.hid hvr
        clear hvr
        go_wp2
        go_roundw
        case rel => exact ⟨j + 1, by omega, by go_num, by rw [htk.out]; exact HR, by rw [hb2.cell (by exact hlt)]; exact b0, by rw [hb2.cell (by exact hlt)]; exact b1, by rw [hb2.cell (by exact hlt)]; exact b2, by rw [hb2.cell (by exact hlt)]; exact b3, hb.trans (hb2.mono (by omega)), by omega⟩
        case measure => simp [intOf]; omega
      · obtain rfl : j = n := by omega
        have e := Lib.hid (List.take_of_length_le (l := args) (i := j) (by rw [Hn.out]; exact Nat.le_refl _))
        rw [e.out] at HS
        go_wp2
        go_ret
        exact ⟨_, rfl, HS.out, hb⟩
  · have HF := Lib.hid (hfh1.out hk)
    go_enter Tryd.func57, Tryd.ntmps57
    go_wp2_with fail
    refine (c_InsertString l nm vl _ w.heap.size (HL.out.below ((Below.refl _ _).alloc (Nat.le_refl _) _) (Nat.le_refl _)) (by simp) (by omega)).mono ?_
    rintro e w1 ⟨v1, rfl, hv1, hb1⟩
    have HV1 := Lib.hid hv1
    clear hv1
    have hs1 := hb1.size
    simp at hs1
    have hbb : Below w.heap.size w w1 := ((Below.refl _ _).alloc (Nat.le_refl _) _).trans (hb1.mono (by simp))
    have hq : w1.cell? ⟨w.heap.size, 0, none⟩ = some (.int .i64 k) ∧ w1.cell? ⟨w.heap.size, 1, none⟩ = some (.string nm) ∧ w1.cell? ⟨w.heap.size, 2, none⟩ = some (.int .i64 ix) ∧ w1.cell? ⟨w.heap.size, 3, none⟩ = some (.slice A n c) := by
      refine ⟨?_, ?_, ?_, ?_⟩ <;> (rw [hb1.cell (by simp)]; simp)
    have HQ := Lib.hid hq
    clear hb1 hq
    go_wp2
    have hx : (w1).cell? ⟨w.heap.size, 0, none⟩ = some (.int .i64 k) ∧ (w1).cell? ⟨w.heap.size, 1, none⟩ = some (.string nm) ∧ (w1).cell? ⟨w.heap.size, 2, none⟩ = some (.int .i64 ix) ∧ (w1).cell? ⟨w.heap.size, 3, none⟩ = some (.slice A n c) ∧ Below w.heap.size w (w1) ∧ w.heap.size < (w1).heap.size ∧ Hid (IsStrs (w1) (w1).heap.size (insAllS l fh) (v1)) := ⟨HQ.out.1, HQ.out.2.1, HQ.out.2.2.1, HQ.out.2.2.2, hbb, by omega, by rw [HF.out]; exact HV1⟩
    generalize w1 = W at *
    obtain ⟨b0, b1, b2, b3, hbW, hltW, HL1⟩ := hx
    go_loopw [1, 5] (fun s i wr => ∃ j : Nat, j ≤ n ∧ i = .int .i64 j ∧ Hid (IsStrs wr wr.heap.size (insAllS (insAllS l fh) (Ty.nmss (args.take j))) s) ∧ wr.cell? ⟨w.heap.size, 0, none⟩ = some (.int .i64 k) ∧ wr.cell? ⟨w.heap.size, 1, none⟩ = some (.string nm) ∧ wr.cell? ⟨w.heap.size, 2, none⟩ = some (.int .i64 ix) ∧ wr.cell? ⟨w.heap.size, 3, none⟩ = some (.slice A n c) ∧ Below w.heap.size w wr ∧ w.heap.size < wr.heap.size) (fun _ i _ => n - (intOf i).toNat)
    case atStart => exact ⟨0, by omega, rfl, HL1, b0, b1, b2, b3, hbW, hltW⟩
    case round =>
      clear b0 b1 b2 b3 hbW hltW
      obtain ⟨j, hj, rfl, HS, b0, b1, b2, b3, hb, hlt⟩ := hrel
      by_cases hjn : j < n
      · obtain ⟨g, o, A', c', hj', rfl, hg1, hg2, c0, c1, c2, c3, ht⟩ := HV.out.at_ (KeepIn.of_below hb hB) hjn
        have hg := Ty.size_get j hj'
        have HT := Lib.hid ht
        clear ht
        have hlen : (insAllS (insAllS l fh) (Ty.nmss (args.take j))).length + args[j].size ≤ 2 ^ 28 := by
          have e1 := insAllS_len (insAllS l fh) (Ty.nmss (args.take j))
          have e2 := insAllS_len l fh
          have e3 := Ty.nmss_len (args.take j)
          have e4 := Ty.sizes_take j hj'
          have e5 := Ty.sizes_take_le args (j + 1)
          omega
        have htk : Hid (insAllS (insAllS l fh) (Ty.nmss (args.take (j + 1))) = insAllS (insAllS (insAllS l fh) (Ty.nmss (args.take j))) (args[j].nms)) := Lib.hid (by rw [Ty.nmss_take args j hj', insAllS_append])
        generalize args[j] = tj at *
        generalize insAllS (insAllS l fh) (Ty.nmss (args.take j)) = l2 at *
        have hj0 : (0 : Int) ≤ (j : Int) := by omega
        have hj1 : (j : Int) < (n : Int) := by omega
        go_wp2_with fail
        refine (IH.out tj l2 _ L B _ _ (by omega) (HT.out.below (Below.refl _ _) (by omega)) (by omega) HS.out hlen).mono ?_
        rintro e w2 ⟨vr, rfl, hvr, hb2⟩
        have hs2 := hb2.size
        have HR := Lib.hid hvr
        clear hvr
        go_wp2
        go_roundw
        case rel => exact ⟨j + 1, by omega, by go_num, by rw [htk.out]; exact HR, by rw [hb2.cell (by exact hlt)]; exact b0, by rw [hb2.cell (by exact hlt)]; exact b1, by rw [hb2.cell (by exact hlt)]; exact b2, by rw [hb2.cell (by exact hlt)]; exact b3, hb.trans (hb2.mono (by omega)), by omega⟩
        case measure => simp [intOf]; omega
      · obtain rfl : j = n := by omega
        have e := Lib.hid (List.take_of_length_le (l := args) (i := j) (by rw [Hn.out]; exact Nat.le_refl _))
        rw [e.out] at HS
        go_wp2
        go_ret
        exact ⟨_, rfl, HS.out, hb⟩

set_option maxHeartbeats 400000 in
theorem c_TermNames (t : Ty) (w : World) (L B : Nat) (v : Value) (hv : IsTy w L B t v) (hB : B ≤ w.heap.size) (hM : t.size ≤ 2 ^ 28) :
    Calls Tryd.prog 28 #[v] w (RetStrs (insAllS [] t.nms) w) := by
  have HT := Lib.hid hv
  obtain ⟨A, c, rfl, _⟩ := hv.args_
  clear hv
  go_enter Tryd.func28, Tryd.ntmps28
  go_wp2_with fail
  refine (c_termNames t.size t [] _ L B _ _ (Nat.le_refl _) (HT.out.below ((Below.refl _ _).alloc (Nat.le_refl _) _) hB) (by go_size) (IsStrs.nil _ _) (by simpa using hM)).mono ?_
  rintro e w1 ⟨v1, rfl, hv1, hb1⟩
  have HV := Lib.hid hv1
  clear hv1
  go_wp2
  go_ret
  exact ⟨_, rfl, HV.out, ((Below.refl _ _).alloc (Nat.le_refl _) _).trans (hb1.mono (by go_size))⟩


set_option maxHeartbeats 4000000 in
theorem c_collectNames (N : Nat) : ∀ (t : Ty) (xs : List ByteArray) (w : World) (L B base sb : Nat) (vt v : Value), t.size ≤ N → IsTy w L B t vt → B ≤ base → SetS w base sb xs v → base ≤ w.heap.size → xs.length + t.size ≤ 2 ^ 28 →
    Calls Tryd.prog 56 #[vt, .pointer (some ⟨sb, 0, none⟩)] w (AddedSetS base sb v (insAllS xs t.nms) w) := by
  induction N with
  | zero => intro t xs w L B base sb vt v h; have := t.size_pos; omega
  | succ N ih =>
  intro t xs w L B base sb vt v hN ht0 hB hset hbase hM
  obtain ⟨A, c, rfl, hv⟩ := ht0.args_
  clear ht0
  rw [Ty.size_eq] at hN hM
  rw [Ty.nms_eq]
  have hl := Ty.len_le t.args
  rw [show (if t.kind = 2 then [t.name] else []) = nmHead t.kind t.name from rfl, insAllS_append]
  have hfh1 : Hid ((t.kind == 2) = true → nmHead t.kind t.name = [t.name]) := Lib.hid (fun h => by simp at h; simp [nmHead, h])
  have hfn1 : Hid ((t.kind == 2) = false → nmHead t.kind t.name = []) := Lib.hid (fun h => by simp at h; simp [nmHead, h])
  have hfl : (nmHead t.kind t.name).length ≤ 1 := by unfold nmHead; split <;> simp
  generalize nmHead t.kind t.name = fh at *
  generalize t.kind = k, t.name = nm, t.index = ix, t.args = args at *
  have HV := Lib.hid hv; clear hv
  have IH := Lib.hid ih; clear ih
  have HS := Lib.hid hset; clear hset
  have HOG := Lib.hid HS.out.own_ge
  generalize hn : args.length = n at *
  have Hn := Lib.hid hn; clear hn
  cases hk : (k == 2)
  · have HF := Lib.hid (hfn1.out hk)
    go_enter Tryd.func56, Tryd.ntmps56
    go_wp2
    have hx : (w.alloc (.cells #[.int .i64 k, .string nm, .int .i64 ix, .slice A n c] 25)).heap[w.heap.size]? = some (.cells #[.int .i64 k, .string nm, .int .i64 ix, .slice A n c] 25 (0, 0)) ∧ Hid (∃ v', SetS (w.alloc (.cells #[.int .i64 k, .string nm, .int .i64 ix, .slice A n c] 25)) base sb (insAllS xs fh) v' ∧ SetStep sb v w (w.alloc (.cells #[.int .i64 k, .string nm, .int .i64 ix, .slice A n c] 25)) v') ∧ w.heap.size < (w.alloc (.cells #[.int .i64 k, .string nm, .int .i64 ix, .slice A n c] 25)).heap.size ∧ (w.alloc (.cells #[.int .i64 k, .string nm, .int .i64 ix, .slice A n c] 25)).cell? ⟨w.heap.size, 3, none⟩ = some (.slice A n c) := ⟨blk_new _ _, Lib.hid ⟨v, by rw [HF.out]; exact HS.out.step ((Below.refl _ _).alloc (Nat.le_refl _) _), SetStep.of_below ((Below.refl _ _).alloc (Nat.le_refl _) _)⟩, by simp, by simp⟩
    generalize w.alloc (.cells #[.int .i64 k, .string nm, .int .i64 ix, .slice A n c] 25) = Wz at *
    obtain ⟨hbz, HSZ, hltz, b3z⟩ := hx
    go_loopw [16] (fun i wr => ∃ j : Nat, j ≤ n ∧ i = .int .i64 j ∧ Hid (wr.heap[w.heap.size]? = some (.cells #[.int .i64 k, .string nm, .int .i64 ix, .slice A n c] 25 (0, 0))) ∧ Hid (∃ v', SetS wr base sb (insAllS (insAllS xs fh) (Ty.nmss (args.take j))) v' ∧ SetStep sb v w wr v')) (fun i _ => n - (intOf i).toNat)
    case atStart => exact ⟨0, by omega, rfl, Lib.hid hbz, HSZ⟩
    case round =>
      clear hbz HSZ hltz b3z
      obtain ⟨j, hj, rfl, HBX, HSS⟩ := hrel
      by_cases hjn : j < n
      · obtain ⟨v1, hset1, hstep1⟩ := HSS.out
        have hbel : Below B w wr := hstep1.below (by have := hset1.ge; omega) HOG.out (by omega) (by omega)
        obtain ⟨g, o, A', c', hj', rfl, hg1, hg2, c0, c1, c2, c3, ht⟩ := HV.out.at_ (KeepIn.of_below hbel (Nat.le_refl _)) hjn
        have hltw : w.heap.size < wr.heap.size := blk_lt HBX.out
        obtain ⟨b0, b1, b2, b3⟩ := cells4 HBX.out
        have hg := Ty.size_get j hj'
        have HT := Lib.hid ht
        clear ht
        have hlen : (insAllS (insAllS xs fh) (Ty.nmss (args.take j))).length + args[j].size ≤ 2 ^ 28 := by
          have e1 := insAllS_len (insAllS xs fh) (Ty.nmss (args.take j))
          have e2 := insAllS_len xs fh
          have e3 := Ty.nmss_len (args.take j)
          have e4 := Ty.sizes_take j hj'
          have e5 := Ty.sizes_take_le args (j + 1)
          omega
        have htk : Hid (insAllS (insAllS xs fh) (Ty.nmss (args.take (j + 1))) = insAllS (insAllS (insAllS xs fh) (Ty.nmss (args.take j))) args[j].nms) := Lib.hid (by rw [Ty.nmss_take args j hj', insAllS_append])
        generalize args[j] = tj at *
        generalize insAllS (insAllS xs fh) (Ty.nmss (args.take j)) = l2 at *
        have hsz := hstep1.size
        have HS1 := Lib.hid hset1
        have HST := Lib.hid hstep1
        have HBE := Lib.hid hbel
        clear hset1 hstep1 HSS hbel
        have HBA : Hid (∀ o : Obj, Below wr.heap.size wr (wr.alloc o)) := Lib.hid (fun o => (Below.refl _ _).alloc (Nat.le_refl _) _)
        go_wp2_with fail
        refine (IH.out tj l2 _ L B base sb _ v1 (by omega) (HT.out.below (HBA.out _) (by omega)) (by omega) (HS1.out.step (HBA.out _)) (by simp; omega) hlen).mono ?_
        rintro e w2 ⟨rfl, v2, hset2, hstep2⟩
        have hy2 : (wr.alloc (.cells #[.int .i64 tj.kind, .string tj.name, .int .i64 tj.index, .slice A' tj.args.length c'] 25)).heap[w.heap.size]? = _ := blk_old HBX.out
        have hn2 := (HS1.out.step (HBA.out _)).ne hy2 (by decide) (by decide)
        have hz2 := (hstep2.block _ (blk_lt hy2) hn2.1 hn2.2).trans hy2
        obtain ⟨z4, z5, z6, z7⟩ := cells4 hz2
        have HZ2 := Lib.hid hz2
        have HFIN : Hid (∃ v', SetS w2 base sb (insAllS (insAllS xs fh) (Ty.nmss (args.take (j + 1)))) v' ∧ SetStep sb v w w2 v') := Lib.hid ⟨v2, by rw [htk.out]; exact hset2, HST.out.trans ((SetStep.of_below (HBA.out _)).trans hstep2)⟩
        clear hset2 hstep2 hy2 hz2 hn2
        go_wp2
        go_roundw
        case rel => exact ⟨j + 1, by omega, by go_num, HZ2, HFIN⟩
        case measure => simp [intOf]; omega
      · obtain rfl : j = n := by omega
        have e := Lib.hid (List.take_of_length_le (l := args) (i := j) (by rw [Hn.out]; exact Nat.le_refl _))
        rw [e.out] at HSS
        go_wp2
        go_returns
        obtain ⟨v1, hset1, hstep1⟩ := HSS.out
        exact ⟨rfl, v1, hset1, hstep1⟩
  · have HF := Lib.hid (hfh1.out hk)
    have HSA : Hid (∀ o : Obj, SetS (w.alloc o) base sb xs v) := Lib.hid (fun o => HS.out.step ((Below.refl _ _).alloc (Nat.le_refl _) _))
    go_enter Tryd.func56, Tryd.ntmps56
    go_wp2_with fail
    refine (c_addS base sb xs nm v _ (HSA.out _) (by omega) (by go_size) (insS_sorted _ _ HS.out.sorted)).mono ?_
    rintro e w1 ⟨rfl, v1, hset1, hstep1⟩
    have hbx0 := blk_new w (.cells #[.int .i64 k, .string nm, .int .i64 ix, .slice A n c] 25)
    have hnn := (HSA.out _).ne hbx0 (by decide) (by decide)
    have hbx := (hstep1.block _ (by simp) hnn.1 hnn.2).trans hbx0
    obtain ⟨b0, b1, b2, b3⟩ := cells4 hbx
    have HBX := Lib.hid hbx
    have HSS : Hid (∃ v', SetS w1 base sb (insAllS xs fh) v' ∧ SetStep sb v w w1 v') := Lib.hid ⟨v1, by rw [HF.out]; exact hset1, (SetStep.of_below ((Below.refl _ _).alloc (Nat.le_refl _) _)).trans hstep1⟩
    have hs1 := hstep1.size
    simp at hs1
    clear hset1 hstep1 hbx0 hnn hbx
    go_wp2
    have hx : (w1).heap[w.heap.size]? = some (.cells #[.int .i64 k, .string nm, .int .i64 ix, .slice A n c] 25 (0, 0)) ∧ Hid (∃ v', SetS (w1) base sb (insAllS xs fh) v' ∧ SetStep sb v w (w1) v') ∧ w.heap.size < (w1).heap.size ∧ (w1).cell? ⟨w.heap.size, 3, none⟩ = some (.slice A n c) := ⟨HBX.out, HSS, by omega, b3⟩
    generalize w1 = Wz at *
    obtain ⟨hbz, HSZ, hltz, b3z⟩ := hx
    go_loopw [16] (fun i wr => ∃ j : Nat, j ≤ n ∧ i = .int .i64 j ∧ Hid (wr.heap[w.heap.size]? = some (.cells #[.int .i64 k, .string nm, .int .i64 ix, .slice A n c] 25 (0, 0))) ∧ Hid (∃ v', SetS wr base sb (insAllS (insAllS xs fh) (Ty.nmss (args.take j))) v' ∧ SetStep sb v w wr v')) (fun i _ => n - (intOf i).toNat)
    case atStart => exact ⟨0, by omega, rfl, Lib.hid hbz, HSZ⟩
    case round =>
      clear hbz HSZ hltz b3z
      obtain ⟨j, hj, rfl, HBX, HSS⟩ := hrel
      by_cases hjn : j < n
      · obtain ⟨v1, hset1, hstep1⟩ := HSS.out
        have hbel : Below B w wr := hstep1.below (by have := hset1.ge; omega) HOG.out (by omega) (by omega)
        obtain ⟨g, o, A', c', hj', rfl, hg1, hg2, c0, c1, c2, c3, ht⟩ := HV.out.at_ (KeepIn.of_below hbel (Nat.le_refl _)) hjn
        have hltw : w.heap.size < wr.heap.size := blk_lt HBX.out
        obtain ⟨b0, b1, b2, b3⟩ := cells4 HBX.out
        have hg := Ty.size_get j hj'
        have HT := Lib.hid ht
        clear ht
        have hlen : (insAllS (insAllS xs fh) (Ty.nmss (args.take j))).length + args[j].size ≤ 2 ^ 28 := by
          have e1 := insAllS_len (insAllS xs fh) (Ty.nmss (args.take j))
          have e2 := insAllS_len xs fh
          have e3 := Ty.nmss_len (args.take j)
          have e4 := Ty.sizes_take j hj'
          have e5 := Ty.sizes_take_le args (j + 1)
          omega
        have htk : Hid (insAllS (insAllS xs fh) (Ty.nmss (args.take (j + 1))) = insAllS (insAllS (insAllS xs fh) (Ty.nmss (args.take j))) args[j].nms) := Lib.hid (by rw [Ty.nmss_take args j hj', insAllS_append])
        generalize args[j] = tj at *
        generalize insAllS (insAllS xs fh) (Ty.nmss (args.take j)) = l2 at *
        have hsz := hstep1.size
        have HS1 := Lib.hid hset1
        have HST := Lib.hid hstep1
        have HBE := Lib.hid hbel
        clear hset1 hstep1 HSS hbel
        have HBA : Hid (∀ o : Obj, Below wr.heap.size wr (wr.alloc o)) := Lib.hid (fun o => (Below.refl _ _).alloc (Nat.le_refl _) _)
        go_wp2_with fail
        refine (IH.out tj l2 _ L B base sb _ v1 (by omega) (HT.out.below (HBA.out _) (by omega)) (by omega) (HS1.out.step (HBA.out _)) (by simp; omega) hlen).mono ?_
        rintro e w2 ⟨rfl, v2, hset2, hstep2⟩
        have hy2 : (wr.alloc (.cells #[.int .i64 tj.kind, .string tj.name, .int .i64 tj.index, .slice A' tj.args.length c'] 25)).heap[w.heap.size]? = _ := blk_old HBX.out
        have hn2 := (HS1.out.step (HBA.out _)).ne hy2 (by decide) (by decide)
        have hz2 := (hstep2.block _ (blk_lt hy2) hn2.1 hn2.2).trans hy2
        obtain ⟨z4, z5, z6, z7⟩ := cells4 hz2
        have HZ2 := Lib.hid hz2
        have HFIN : Hid (∃ v', SetS w2 base sb (insAllS (insAllS xs fh) (Ty.nmss (args.take (j + 1)))) v' ∧ SetStep sb v w w2 v') := Lib.hid ⟨v2, by rw [htk.out]; exact hset2, HST.out.trans ((SetStep.of_below (HBA.out _)).trans hstep2)⟩
        clear hset2 hstep2 hy2 hz2 hn2
        go_wp2
        go_roundw
        case rel => exact ⟨j + 1, by omega, by go_num, HZ2, HFIN⟩
        case measure => simp [intOf]; omega
      · obtain rfl : j = n := by omega
        have e := Lib.hid (List.take_of_length_le (l := args) (i := j) (by rw [Hn.out]; exact Nat.le_refl _))
        rw [e.out] at HSS
        go_wp2
        go_returns
        obtain ⟨v1, hset1, hstep1⟩ := HSS.out
        exact ⟨rfl, v1, hset1, hstep1⟩

set_option maxHeartbeats 1000000 in
theorem c_Names (t : Ty) (w : World) (L B : Nat) (v : Value) (hv : IsTy w L B t v) (hB : B ≤ w.heap.size) (hM : t.size ≤ 2 ^ 28) :
    Calls Tryd.prog 27 #[v] w (RetStrs (insAllS [] t.nms) w) := by
  have HT := Lib.hid hv
  obtain ⟨A, c, rfl, _⟩ := hv.args_
  clear hv
  have hbW : Hid (∀ o o' : Obj, Below w.heap.size w ((w.alloc o).alloc o')) := Lib.hid (fun o o' => ((Below.refl _ _).alloc (Nat.le_refl _) _).alloc (by simp) _)
  have HSET : Hid (∀ o : Obj, SetS ((w.alloc o).alloc (.cells #[.slice none 0 0] 74)) w.heap.size (w.heap.size + 1) [] (.slice none 0 0)) := Lib.hid (fun o =>
    ⟨blk_new2 _ _ _, ⟨rfl, .inl ⟨rfl, rfl⟩⟩, by omega, .nil⟩)
  go_enter Tryd.func27, Tryd.ntmps27
  go_wp2_with fail
  refine (c_collectNames t.size t [] _ L B w.heap.size (w.heap.size + 1) _ _ (Nat.le_refl _) (HT.out.below (hbW.out _ _) hB) hB (HSET.out _) (by go_size) (by simpa using hM)).mono ?_
  rintro e w1 ⟨rfl, v1, hset1, hstep1⟩
  have hb1 : Below w.heap.size w w1 := (hbW.out _ _).trans (hstep1.below (base := w.heap.size) (by omega) (by simp [Value.ownBlock]) (Nat.le_refl _) (by simp; omega))
  have hc1 : w1.cell? ⟨w.heap.size + 1, 0, none⟩ = some v1 := by rw [cell_of_row w1 _ 0 _ _ _ hset1.blk]; rfl
  have HI := Lib.hid (IsStrs.own hset1.own)
  obtain ⟨A1, c1, rfl, _⟩ := HI.out
  clear hset1 hstep1
  go_wp2
  go_ret
  exact ⟨_, rfl, HI.out, hb1⟩
end Go.Proofs.YtdbflfakocaapaaDoor
