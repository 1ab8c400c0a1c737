/- Contracts of TermSize, Size, TermDepth, Depth. -/
import Derived.Test.YtdbflfakocaapaaDoorPure
namespace Go.Proofs.YtdbflfakocaapaaDoor
open Go.RowKit

set_option maxHeartbeats 400000 in
theorem c_TermSize (N : Nat) : ∀ (t : Ty) (w : World) (L B : Nat) (v : Value), t.size ≤ N → IsTy w L B t v → B ≤ w.heap.size → t.size ≤ 2 ^ 40 →
    Calls Tryd.prog 21 #[v] w fun e w' => e = .returned (.int .i64 t.size) ∧ Below w.heap.size w w' := by
  induction N with
  | zero => intro t w L B v h; have := t.size_pos; omega
  | succ N ih =>
  intro t w L B v hN ht0 hB hM
  obtain ⟨A, c, rfl, hv⟩ := ht0.args_
  clear ht0
  rw [Ty.size_eq] at hN hM ⊢
  have hl := Ty.len_le t.args
  generalize t.kind = k, t.name = nm, t.index = ix, t.args = args at *
  have HV := Lib.hid hv; clear hv
  have IH := Lib.hid ih; clear ih
  generalize hn : args.length = n at *
  have Hn := Lib.hid hn; clear hn
  go_enter Tryd.func21, Tryd.ntmps21
  go_wp2
  go_loopw [3, 4] (fun s i wr => ∃ j : Nat, j ≤ n ∧ i = .int .i64 j ∧ s = .int .i64 (1 + (Ty.sizes (args.take j) : Nat)) ∧ wr.cell? ⟨w.heap.size, 3, none⟩ = some (.slice A n c) ∧ Below w.heap.size w wr ∧ w.heap.size < wr.heap.size) (fun _ i _ => n - (intOf i).toNat)
  case atStart => exact ⟨0, by omega, rfl, rfl, by simp, by exact (Below.refl _ _).alloc (Nat.le_refl _) _, by simp⟩
  case round =>
    obtain ⟨j, hj, rfl, rfl, hc, hb, hlt⟩ := hrel
    have hle := Ty.sizes_take_le args j
    by_cases hjn : j < n
    · obtain ⟨g, o, A', c', hj', rfl, hg1, hg2, c0, c1, c2, c3, ht⟩ := HV.out.at_ (KeepIn.of_below hb hB) hjn
      have hg := Ty.size_get j hj'
      have hs := Lib.hid (Ty.sizes_take j hj')
      have hle2 := Ty.sizes_take_le args (j + 1)
      have HT := Lib.hid ht
      clear ht
      generalize args[j] = tj at *
      have hs' : Ty.sizes (List.take (j + 1) args) ≤ Ty.sizes (List.take j args) + tj.size := by rw [hs.out]; exact Nat.le_refl _
      have hs'' : Ty.sizes (List.take j args) + tj.size ≤ Ty.sizes (List.take (j + 1) args) := by rw [hs.out]; exact Nat.le_refl _
      go_wp2_with fail
      refine (IH.out tj _ L B _ (by omega) HT.out (by omega) (by omega)).mono ?_
      rintro e w' ⟨rfl, hb'⟩
      go_wp2
      go_roundw
      case rel => exact ⟨j + 1, by omega, by go_num, by rw [hs.out]; go_num, by rw [hb'.cell (by exact hlt)]; exact hc, hb.trans (hb'.mono (by omega)), by have := hb'.size; omega⟩
      case measure => simp [intOf]; omega
    · have : j = n := by omega
      subst this
      go_wp2
      go_ret
      exact ⟨by rw [← Hn.out]; simp, hb⟩

set_option maxHeartbeats 400000 in
theorem c_Size (N : Nat) : ∀ (t : Ty) (w : World) (L B : Nat) (v : Value), t.size ≤ N → IsTy w L B t v → B ≤ w.heap.size → t.size ≤ 2 ^ 40 →
    Calls Tryd.prog 29 #[v] w fun e w' => e = .returned (.int .i64 t.size) ∧ Below w.heap.size w w' := by
  induction N with
  | zero => intro t w L B v h; have := t.size_pos; omega
  | succ N ih =>
  intro t w L B v hN ht0 hB hM
  obtain ⟨A, c, rfl, hv⟩ := ht0.args_
  clear ht0
  rw [Ty.size_eq] at hN hM ⊢
  have hl := Ty.len_le t.args
  generalize t.kind = k, t.name = nm, t.index = ix, t.args = args at *
  have HV := Lib.hid hv; clear hv
  have IH := Lib.hid ih; clear ih
  generalize hn : args.length = n at *
  have Hn := Lib.hid hn; clear hn
  go_enter Tryd.func29, Tryd.ntmps29
  go_wp2
  go_loopw [3, 9] (fun s i wr => ∃ j : Nat, j ≤ n ∧ i = .int .i64 j ∧ s = .int .i64 (1 + (Ty.sizes (args.take j) : Nat)) ∧ wr.cell? ⟨w.heap.size, 3, none⟩ = some (.slice A n c) ∧ Below w.heap.size w wr ∧ w.heap.size < wr.heap.size) (fun _ i _ => n - (intOf i).toNat)
  case atStart => exact ⟨0, by omega, rfl, rfl, by simp, by exact (Below.refl _ _).alloc (Nat.le_refl _) _, by simp⟩
  case round =>
    obtain ⟨j, hj, rfl, rfl, hc, hb, hlt⟩ := hrel
    have hle := Ty.sizes_take_le args j
    by_cases hjn : j < n
    · obtain ⟨g, o, A', c', hj', rfl, hg1, hg2, c0, c1, c2, c3, ht⟩ := HV.out.at_ (KeepIn.of_below hb hB) hjn
      have hg := Ty.size_get j hj'
      have hs := Lib.hid (Ty.sizes_take j hj')
      have hle2 := Ty.sizes_take_le args (j + 1)
      have HT := Lib.hid ht
      clear ht
      generalize args[j] = tj at *
      have hs' : Ty.sizes (List.take (j + 1) args) ≤ Ty.sizes (List.take j args) + tj.size := by rw [hs.out]; exact Nat.le_refl _
      have hs'' : Ty.sizes (List.take j args) + tj.size ≤ Ty.sizes (List.take (j + 1) args) := by rw [hs.out]; exact Nat.le_refl _
      go_wp2_with fail
      refine (IH.out tj _ L B _ (by omega) (HT.out.keep (KeepIn.alloc _ (by omega)) (Nat.le_refl _) (Nat.le_refl _)) (by simp; omega) (by omega)).mono ?_
      rintro e w' ⟨rfl, hb'⟩
      go_wp2
      go_roundw
      case rel => exact ⟨j + 1, by omega, by go_num, by rw [hs.out]; go_num, by rw [hb'.cell (by simp; omega), World.cell?_alloc_lt _ _ _ (by exact hlt)]; exact hc, (hb.alloc (by omega) _).trans (hb'.mono (by simp; omega)), by have := hb'.size; simp at this; omega⟩
      case measure => simp [intOf]; omega
    · have : j = n := by omega
      subst this
      go_wp2
      go_ret
      exact ⟨by rw [← Hn.out]; simp, hb⟩

set_option maxHeartbeats 400000 in
theorem c_TermDepth (N : Nat) : ∀ (t : Ty) (w : World) (L B : Nat) (v : Value), t.size ≤ N → IsTy w L B t v → B ≤ w.heap.size → t.size ≤ 2 ^ 40 →
    Calls Tryd.prog 24 #[v] w fun e w' => e = .returned (.int .i64 t.depth) ∧ Below w.heap.size w w' := by
  induction N with
  | zero => intro t w L B v h; have := t.size_pos; omega
  | succ N ih =>
  intro t w L B v hN ht0 hB hM
  obtain ⟨A, c, rfl, hv⟩ := ht0.args_
  clear ht0
  rw [Ty.size_eq] at hN hM
  rw [Ty.depth_eq]
  have hd := Ty.depths_le t.args
  have hl := Ty.len_le t.args
  generalize t.kind = k, t.name = nm, t.index = ix, t.args = args at *
  have HV := Lib.hid hv; clear hv
  have IH := Lib.hid ih; clear ih
  generalize hn : args.length = n at *
  have Hn := Lib.hid hn; clear hn
  go_enter Tryd.func24, Tryd.ntmps24
  go_wp2
  go_loopw [3, 4] (fun s i wr => ∃ j : Nat, j ≤ n ∧ i = .int .i64 j ∧ s = .int .i64 (Ty.depths (args.take j) : Nat) ∧ wr.cell? ⟨w.heap.size, 3, none⟩ = some (.slice A n c) ∧ Below w.heap.size w wr ∧ w.heap.size < wr.heap.size) (fun _ i _ => n - (intOf i).toNat)
  case atStart => exact ⟨0, by omega, rfl, rfl, by simp, by exact (Below.refl _ _).alloc (Nat.le_refl _) _, by simp⟩
  case round =>
    obtain ⟨j, hj, rfl, rfl, hc, hb, hlt⟩ := hrel
    have hle := Ty.depths_le (args.take j)
    have hle2 := Ty.sizes_take_le args j
    by_cases hjn : j < n
    · obtain ⟨g, o, A', c', hj', rfl, hg1, hg2, c0, c1, c2, c3, ht⟩ := HV.out.at_ (KeepIn.of_below hb hB) hjn
      have hg := Ty.size_get j hj'
      have hg2' := Ty.depth_le args[j]
      have hs := Lib.hid (Ty.depths_take j hj')
      have HT := Lib.hid ht
      clear ht
      generalize args[j] = tj at *
      go_wp2_with fail
      refine (IH.out tj _ L B _ (by omega) HT.out (by omega) (by omega)).mono ?_
      rintro e w' ⟨rfl, hb'⟩
      go_wp2
      go_roundw
      case rel => exact ⟨j + 1, by omega, by go_num, by rw [hs.out]; (simp only [Value.int.injEq, true_and]; split <;> omega), by rw [hb'.cell (by exact hlt)]; exact hc, hb.trans (hb'.mono (by omega)), by have := hb'.size; omega⟩
      case measure => simp [intOf]; omega
    · have : j = n := by omega
      subst this
      go_wp2
      go_ret
      exact ⟨by rw [← Hn.out]; simp, hb⟩

set_option maxHeartbeats 400000 in
theorem c_Depth (N : Nat) : ∀ (t : Ty) (w : World) (L B : Nat) (v : Value), t.size ≤ N → IsTy w L B t v → B ≤ w.heap.size → t.size ≤ 2 ^ 40 →
    Calls Tryd.prog 30 #[v] w fun e w' => e = .returned (.int .i64 t.depth) ∧ Below w.heap.size w w' := by
  induction N with
  | zero => intro t w L B v h; have := t.size_pos; omega
  | succ N ih =>
  intro t w L B v hN ht0 hB hM
  obtain ⟨A, c, rfl, hv⟩ := ht0.args_
  clear ht0
  rw [Ty.size_eq] at hN hM
  rw [Ty.depth_eq]
  have hd := Ty.depths_le t.args
  have hl := Ty.len_le t.args
  generalize t.kind = k, t.name = nm, t.index = ix, t.args = args at *
  have HV := Lib.hid hv; clear hv
  have IH := Lib.hid ih; clear ih
  generalize hn : args.length = n at *
  have Hn := Lib.hid hn; clear hn
  go_enter Tryd.func30, Tryd.ntmps30
  go_wp2
  go_loopw [3, 9] (fun s i wr => ∃ j : Nat, j ≤ n ∧ i = .int .i64 j ∧ s = .int .i64 (Ty.depths (args.take j) : Nat) ∧ wr.cell? ⟨w.heap.size, 3, none⟩ = some (.slice A n c) ∧ Below w.heap.size w wr ∧ w.heap.size < wr.heap.size) (fun _ i _ => n - (intOf i).toNat)
  case atStart => exact ⟨0, by omega, rfl, rfl, by simp, by exact (Below.refl _ _).alloc (Nat.le_refl _) _, by simp⟩
  case round =>
    obtain ⟨j, hj, rfl, rfl, hc, hb, hlt⟩ := hrel
    have hle := Ty.depths_le (args.take j)
    have hle2 := Ty.sizes_take_le args j
    by_cases hjn : j < n
    · obtain ⟨g, o, A', c', hj', rfl, hg1, hg2, c0, c1, c2, c3, ht⟩ := HV.out.at_ (KeepIn.of_below hb hB) hjn
      have hg := Ty.size_get j hj'
      have hg2' := Ty.depth_le args[j]
      have hs := Lib.hid (Ty.depths_take j hj')
      have HT := Lib.hid ht
      clear ht
      generalize args[j] = tj at *
      go_wp2_with fail
      refine (IH.out tj _ L B _ (by omega) (HT.out.keep (KeepIn.alloc _ (by omega)) (Nat.le_refl _) (Nat.le_refl _)) (by simp; omega) (by omega)).mono ?_
      rintro e w' ⟨rfl, hb'⟩
      go_wp2
      go_roundw
      case rel => exact ⟨j + 1, by omega, by go_num, by rw [hs.out]; (simp only [Value.int.injEq, true_and]; split <;> omega), by rw [hb'.cell (by simp; omega), World.cell?_alloc_lt _ _ _ (by exact hlt)]; exact hc, (hb.alloc (by omega) _).trans (hb'.mono (by simp; omega)), by have := hb'.size; simp at this; omega⟩
      case measure => simp [intOf]; omega
    · have : j = n := by omega
      subst this
      go_wp2
      go_ret
      exact ⟨by rw [← Hn.out]; simp, hb⟩

end Go.Proofs.YtdbflfakocaapaaDoor
