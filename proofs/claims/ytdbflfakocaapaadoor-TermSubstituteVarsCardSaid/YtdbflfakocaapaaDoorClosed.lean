/- Contracts of binders and closed. -/
import Derived.Test.YtdbflfakocaapaaDoorIdent
import Derived.Deep.RegionHeld3
import Derived.Deep.DrawnRows
namespace Go.Proofs.YtdbflfakocaapaaDoor
open Go.RowKit
attribute [local go_sem ↓] Go.wp_at_zero Go.wp_at_succ

set_option maxHeartbeats 400000 in
theorem c_tbinders (k : Int) (nm : ByteArray) (ix : Int) (u : Value) (i : Nat) (w : World) :
    Calls Tryd.prog 77 #[.agg #[.int .i64 k, .string nm, .int .i64 ix, u], .int .i64 i] w fun e w' => e = .returned (.int .i64 (bindI k i)) ∧ Below w.heap.size w w' := by
  by_cases hk : k = 6
  · subst hk
    by_cases hi : i = 1
    · subst hi
      go_enter Tryd.func77, Tryd.ntmps77
      go_wp2
      go_ret
      exact ⟨rfl, (Below.refl _ _).alloc (Nat.le_refl _) _⟩
    · have h1 : ((i : Int) == 1) = false := by rw [beq_eq_false_iff_ne]; omega
      have hf : Hid (bindI 6 i = 0) := Lib.hid (by simp [bindI, hi])
      go_enter Tryd.func77, Tryd.ntmps77
      go_wp2
      go_ret
      exact ⟨ret_int (by rw [hf.out]), (Below.refl _ _).alloc (Nat.le_refl _) _⟩
  · have h1 : (k == 6) = false := by rw [beq_eq_false_iff_ne]; exact hk
    have hf : Hid (bindI k i = 0) := Lib.hid (by simp [bindI, hk])
    go_enter Tryd.func77, Tryd.ntmps77
    go_wp2
    go_ret
    exact ⟨ret_int (by rw [hf.out]), (Below.refl _ _).alloc (Nat.le_refl _) _⟩
set_option maxHeartbeats 400000 in
theorem c_rbinders (k : Int) (nm : ByteArray) (ix : Int) (u : Value) (i : Nat) (w : World) :
    Calls Tryd.prog 79 #[.agg #[.int .i64 k, .string nm, .int .i64 ix, u], .int .i64 i] w fun e w' => e = .returned (.int .i64 (bindI k i)) ∧ Below w.heap.size w w' := by
  by_cases hk : k = 6
  · subst hk
    by_cases hi : i = 1
    · subst hi
      go_enter Tryd.func79, Tryd.ntmps79
      go_wp2
      go_ret
      exact ⟨rfl, (Below.refl _ _).alloc (Nat.le_refl _) _⟩
    · have h1 : ((i : Int) == 1) = false := by rw [beq_eq_false_iff_ne]; omega
      have hf : Hid (bindI 6 i = 0) := Lib.hid (by simp [bindI, hi])
      go_enter Tryd.func79, Tryd.ntmps79
      go_wp2
      go_ret
      exact ⟨ret_int (by rw [hf.out]), (Below.refl _ _).alloc (Nat.le_refl _) _⟩
  · have h1 : (k == 6) = false := by rw [beq_eq_false_iff_ne]; exact hk
    have hf : Hid (bindI k i = 0) := Lib.hid (by simp [bindI, hk])
    go_enter Tryd.func79, Tryd.ntmps79
    go_wp2
    go_ret
    exact ⟨ret_int (by rw [hf.out]), (Below.refl _ _).alloc (Nat.le_refl _) _⟩

theorem Ty.closed_var {t : Ty} {d : Int} (h : t.kind = 5) (h2 : d ≤ t.index) : t.closed d = false := by
  rw [Ty.closed_eq]; simp [h, h2]
theorem Ty.closed_non {t : Ty} {d : Int} (h : ¬ (t.kind = 5 ∧ d ≤ t.index)) : t.closed d = Ty.closeds t.kind t.args 0 d := by
  rw [Ty.closed_eq]
  have : (t.kind == 5 && decide (d ≤ t.index)) = false := by
    rw [Bool.eq_false_iff]; intro e; simp at e; exact h e
  simp [this]
theorem Ty.closeds_false {k : Int} {ts : List Ty} {d : Int} (j : Nat) (hj : j < ts.length) (h : ts[j].closed (d + bindI k j) = false) : Ty.closeds k ts 0 d = false := by
  rw [Bool.eq_false_iff]
  intro e
  have := (Ty.closeds_iff k ts 0 d).1 e j hj
  rw [Nat.zero_add, h] at this
  cases this

set_option maxHeartbeats 1000000 in
theorem c_closed (N : Nat) : ∀ (t : Ty) (d : Int) (w : World) (L B : Nat) (v : Value), t.size ≤ N → IsTy w L B t v → B ≤ w.heap.size → t.ok → t.size ≤ 2 ^ 40 → 0 ≤ d → d + t.size ≤ 2 ^ 50 →
    Calls Tryd.prog 58 #[v, .int .i64 d] w fun e w' => e = .returned (.bool (t.closed d)) ∧ Below w.heap.size w w' := by
  induction N with
  | zero => intro t d w L B v h; have := t.size_pos; omega
  | succ N ih =>
  intro t d w L B v hN ht0 hB hok hM hd0 hd
  obtain ⟨A, c, rfl, hv⟩ := ht0.args_
  clear ht0
  rw [Ty.size_eq] at hN hM hd
  rw [Ty.ok_eq] at hok
  obtain ⟨hok1, hok2, hok3⟩ := hok
  unfold inI at hok1 hok2
  have hl := Ty.len_le t.args
  by_cases hvar : t.kind = 5 ∧ d ≤ t.index
  · obtain ⟨h5, hle⟩ := hvar
    have hf := Lib.hid (Ty.closed_var h5 hle)
    have h5' : (t.kind == 5) = true := by rw [h5]; rfl
    clear h5
    generalize t.kind = k at *
    go_enter Tryd.func58, Tryd.ntmps58
    go_wp2
    go_ret
    exact ⟨ret_bool (by rw [hf.out]), (Below.refl _ _).alloc (Nat.le_refl _) _⟩
  have hcl := Lib.hid (Ty.closed_non hvar)
  generalize t.closed d = result at *
  generalize ek : t.kind = k, en : t.name = nm, ei : t.index = ix, ea : t.args = args at *
  clear ek en ei ea
  have HV := Lib.hid hv; clear hv
  have IH := Lib.hid ih; clear ih
  have HO := Lib.hid hok3; clear hok3
  generalize hn : args.length = n at *
  have Hn := Lib.hid hn; clear hn
  have hway : (k == 5) = false ∨ ((k == 5) = true ∧ ¬ d ≤ ix) := by
    by_cases h : k = 5
    · exact .inr ⟨by rw [h]; rfl, fun e => hvar ⟨h, e⟩⟩
    · exact .inl (by rw [beq_eq_false_iff_ne]; exact h)
  clear hvar
  rcases hway with hk5 | ⟨hk5, hix⟩
  all_goals
    go_enter Tryd.func58, Tryd.ntmps58
    go_wp2
    go_loopw [19] (fun i wr => ∃ j : Nat, j ≤ n ∧ i = .int .i64 j ∧ Hid (∀ (i : Nat) (hi : i < args.length), i < j → args[i].closed (d + bindI k i) = true) ∧
      wr.cell? ⟨w.heap.size, 0, none⟩ = some (.int .i64 k) ∧ wr.cell? ⟨w.heap.size, 1, none⟩ = some (.string nm) ∧ wr.cell? ⟨w.heap.size, 2, none⟩ = some (.int .i64 ix) ∧ wr.cell? ⟨w.heap.size, 3, none⟩ = some (.slice A n c) ∧ Below w.heap.size w wr ∧ w.heap.size < wr.heap.size) (fun i _ => n - (intOf i).toNat)
    case atStart => exact ⟨0, by omega, rfl, Lib.hid (fun _ _ h => by omega), by simp, by simp, by simp, by simp, by exact (Below.refl _ _).alloc (Nat.le_refl _) _, by simp⟩
    case round =>
      obtain ⟨j, hj, rfl, hall, b0, b1, b2, b3, hb, hlt⟩ := hrel
      by_cases hjn : j < n
      · obtain ⟨g, o, A', c', hj', rfl, hg1, hg2, c0, c1, c2, c3, ht⟩ := HV.out.at_ (KeepIn.of_below hb hB) hjn
        have hg := Ty.size_get j hj'
        have hoj := Lib.hid (Ty.ok_get HO.out j hj')
        have HT := Lib.hid ht
        clear ht
        have hfalse : Hid (args[j].closed (d + bindI k j) = false → Ty.closeds k args 0 d = false) := Lib.hid (Ty.closeds_false j hj')
        have htrue : Hid (args[j].closed (d + bindI k j) = true → ∀ (i : Nat) (hi : i < args.length), i < j + 1 → args[i].closed (d + bindI k i) = true) := Lib.hid (fun h i hi hij => by
          rcases Nat.lt_or_ge i j with h1 | h1
          · exact hall.out i hi h1
          · obtain rfl : i = j := by omega
            exact h)
        generalize args[j] = tj at *
        have hbi := bindI_le k j
        have HW : Hid (IntKind.i64.wrap (d + bindI k j) = d + bindI k j) := Lib.hid (IntWalk.i64_in _ (by omega))
        have hx := fun (W : World) (hW : W = wr.alloc (.cells #[.int .i64 tj.kind, .string tj.name, .int .i64 tj.index, .slice A' tj.args.length c'] 25)) =>
          (show W.cell? ⟨wr.heap.size, 0, none⟩ = some (.int .i64 tj.kind) ∧ W.cell? ⟨wr.heap.size, 1, none⟩ = some (.string tj.name) ∧ W.cell? ⟨wr.heap.size, 2, none⟩ = some (.int .i64 tj.index) ∧ W.cell? ⟨wr.heap.size, 3, none⟩ = some (.slice A' tj.args.length c') ∧ W.cell? ⟨w.heap.size, 0, none⟩ = some (.int .i64 k) ∧ W.cell? ⟨w.heap.size, 1, none⟩ = some (.string nm) ∧ W.cell? ⟨w.heap.size, 2, none⟩ = some (.int .i64 ix) ∧ W.cell? ⟨w.heap.size, 3, none⟩ = some (.slice (some ⟨g, o, none⟩) n c) ∧ Below wr.heap.size wr W ∧ wr.heap.size < W.heap.size from by
            subst hW
            refine ⟨by simp, by simp, by simp, by simp, ?_, ?_, ?_, ?_, (Below.refl _ _).alloc (Nat.le_refl _) _, by simp⟩ <;> (rw [World.cell?_alloc_lt _ _ _ (by exact hlt)]; assumption))
        have HX := Lib.hid hx
        clear hx
        go_wp2
        generalize hW : wr.alloc _ = W
        obtain ⟨x0, x1, x2, x3, y0, y1, y2, y3, hbW, hltW⟩ := HX.out W hW.symm
        clear hW
        go_region_held3 (fun w' => w'.cell? ⟨wr.heap.size, 0, none⟩ = some (.int .i64 tj.kind) ∧ w'.cell? ⟨wr.heap.size, 1, none⟩ = some (.string tj.name) ∧ w'.cell? ⟨wr.heap.size, 2, none⟩ = some (.int .i64 tj.index) ∧ w'.cell? ⟨wr.heap.size, 3, none⟩ = some (.slice A' tj.args.length c') ∧ w'.cell? ⟨w.heap.size, 0, none⟩ = some (.int .i64 k) ∧ w'.cell? ⟨w.heap.size, 1, none⟩ = some (.string nm) ∧ w'.cell? ⟨w.heap.size, 2, none⟩ = some (.int .i64 ix) ∧ w'.cell? ⟨w.heap.size, 3, none⟩ = some (.slice (some ⟨g, o, none⟩) n c)) (first | go_keep | (go_split_ands; refine ⟨?_, ?_, ?_, ?_, ?_, ?_, ?_, ?_⟩ <;> (first | (rw [hb2.cell (by have := hb1.size; simp at this ⊢; omega)]; assumption) | (rw [hb1.cell (by simp; omega)]; assumption))))
          (first | (go_at_call 77; refine (c_tbinders _ _ _ _ _ _).mono ?_; rintro e w1 ⟨rfl, hb1⟩) | (go_at_call 58; rw [HW.out]; refine (IH.out tj _ _ L B _ (by omega) (HT.out.below (hbW.trans ((Below.refl _ _).drew.trans (hb1.mono (by simp; omega)))) (by omega)) (by have := hb1.size; simp at this; omega) hoj.out (by omega) (by omega) (by omega)).mono ?_; rintro e w2 ⟨rfl, hb2⟩))
        have hs1 := hb1.size
        have hs2 := hb2.size
        simp only [heap_drew] at hs1 hb1
        have hbz : Below wr.heap.size wr w2 := hbW.trans ((Below.refl _ _).drew.trans ((hb1.mono (by go_size)).trans (hb2.mono (by omega))))
        clear hb1 hb2 hbW x0 x1 x2 x3 y0 y1 y2 y3
        cases hres : tj.closed (d + bindI k j)
        · have hz := Lib.hid (hfalse.out hres)
          go_wp2
          go_ret
          exact ⟨ret_bool (by rw [hcl.out, hz.out]), hb.trans (hbz.mono (by omega))⟩
        · have hz := Lib.hid (htrue.out hres)
          go_wp2
          go_roundw
          case rel => exact ⟨j + 1, by omega, by go_num, hz, by rw [hbz.cell (by exact hlt)]; exact b0, by rw [hbz.cell (by exact hlt)]; exact b1, by rw [hbz.cell (by exact hlt)]; exact b2, by rw [hbz.cell (by exact hlt)]; exact b3, hb.trans (hbz.mono (by omega)), by have := hbz.size; omega⟩
          case measure => simp [intOf]; omega
      · obtain rfl : j = n := by omega
        have hz : Hid (Ty.closeds k args 0 d = true) := Lib.hid ((Ty.closeds_iff k args 0 d).2 fun i hi => by rw [Nat.zero_add]; exact hall.out i hi (by rw [← Hn.out]; exact hi))
        go_wp2
        go_ret
        exact ⟨ret_bool (by rw [hcl.out, hz.out]), hb⟩
end Go.Proofs.YtdbflfakocaapaaDoor
