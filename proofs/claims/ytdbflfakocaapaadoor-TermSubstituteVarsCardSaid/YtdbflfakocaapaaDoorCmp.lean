/- Contracts of cmp.Compare, cmp.Or, Compare, Equal, TermCompare, TermEqual. -/
import Derived.Test.YtdbflfakocaapaaDoorOrdP
import Derived.Test.YtdbflfakocaapaaDoorInts
import Derived.Deep.RegionHeld3
namespace Go.Proofs.YtdbflfakocaapaaDoor
open Go.RowKit
attribute [local go_sem ↓] Go.wp_at_zero Go.wp_at_succ

set_option maxHeartbeats 400000 in
theorem c_nanI (x : Int) (w : World) : Calls Tryd.prog 83 #[.int .i64 x] w fun e w' => e = .returned (.bool false) ∧ w' = w := by
  go_enter Tryd.func83, Tryd.ntmps83
  go_wp2
  go_ret
  exact ⟨rfl, rfl⟩
set_option maxHeartbeats 400000 in
theorem c_nanS (x : ByteArray) (w : World) : Calls Tryd.prog 84 #[.string x] w fun e w' => e = .returned (.bool false) ∧ w' = w := by
  go_enter Tryd.func84, Tryd.ntmps84
  go_wp2
  go_ret
  exact ⟨by simp, rfl⟩
set_option maxHeartbeats 1000000 in
theorem c_cmpI (x y : Int) (w : World) : Calls Tryd.prog 62 #[.int .i64 x, .int .i64 y] w fun e w' => e = .returned (.int .i64 (cI x y)) ∧ w' = w := by
  have hz : Hid (cI x y = if x < y then -1 else if y < x then 1 else 0) := Lib.hid rfl
  generalize cI x y = r at *
  go_enter Tryd.func62, Tryd.ntmps62
  go_wp2_with (first
    | (go_at_call 83; refine (c_nanI _ _).mono ?_; rintro e w' ⟨rfl, rfl⟩))
  all_goals
    go_ret
    refine ⟨ret_int ?_, rfl⟩
    rw [hz.out]
    (repeat' split) <;> omega
set_option maxHeartbeats 1000000 in
theorem c_cmpS (x y : ByteArray) (w : World) : Calls Tryd.prog 63 #[.string x, .string y] w fun e w' => e = .returned (.int .i64 (cS x y)) ∧ w' = w := by
  have HC := Lib.hid (cS_cases x y)
  have HA : Hid (Op.bytesLess y.toList x.toList = true → Op.bytesLess x.toList y.toList = false) := Lib.hid bl_asymm
  have HI := Lib.hid (bl_irrefl x.toList)
  generalize cS x y = r at *
  go_enter Tryd.func63, Tryd.ntmps63
  go_wp2_with (first
    | (go_at_call 84; refine (c_nanS _ _).mono ?_; rintro e w' ⟨rfl, rfl⟩))
  all_goals
    go_ret
    refine ⟨ret_int ?_, rfl⟩
    rename_i hs
    have hA := HA.out
    have hI := HI.out
    rcases HC.out with ⟨e, h⟩ | ⟨e, h⟩ | ⟨e, h⟩
    all_goals first | exact e.symm | (exfalso; simp_all; done)
set_option maxHeartbeats 400000 in
theorem c_order (b : Bool) (w : World) : Calls Tryd.prog 64 #[.bool b] w fun e w' => e = .returned (.int .i64 (if b = true then -1 else 1)) ∧ w' = w := by
  cases b
  all_goals
    go_enter Tryd.func64, Tryd.ntmps64
    go_wp2
    go_ret
    exact ⟨rfl, rfl⟩
def orL : List Int → Int
  | [] => 0
  | x :: xs => or0 x (orL xs)
theorem orL_at (zs : List Int) (j : Nat) (hj : j < zs.length) (h0 : ∀ (i : Nat) (hi : i < zs.length), i < j → zs[i] = 0) (h : zs[j] ≠ 0) : orL zs = zs[j] := by
  induction zs generalizing j with
  | nil => simp at hj
  | cons z zs ih =>
    rcases j with _ | j
    · have h' : z ≠ 0 := h
      simp [orL, or0, h']
    · have hz : z = 0 := h0 0 (by simp) (by omega)
      simp only [orL, or0, hz, if_true, List.getElem_cons_succ]
      exact ih j (by simpa using hj) (fun i hi hij => h0 (i + 1) (by simpa using hi) (by omega)) h
theorem orL_zero (zs : List Int) (h0 : ∀ (i : Nat) (hi : i < zs.length), zs[i] = 0) : orL zs = 0 := by
  induction zs with
  | nil => rfl
  | cons z zs ih =>
    have hz : z = 0 := h0 0 (by simp)
    simp only [orL, or0, hz, if_true]
    exact ih fun i hi => h0 (i + 1) (by simpa using hi)
set_option maxHeartbeats 1000000 in
theorem c_Or (zs : List Int) (v : Value) (w : World) (B : Nat) (hv : IsInts w B zs v) (hn : zs.length ≤ 2 ^ 40) : Calls Tryd.prog 61 #[v] w fun e w' => e = .returned (.int .i64 (orL zs)) ∧ w' = w := by
  obtain ⟨A, c, rfl, hc, hm, _, _, hr⟩ := hv
  have HR := Lib.hid hr; clear hr
  generalize hl : zs.length = n at *
  have Hn := Lib.hid hl; clear hl
  clear hm
  go_enter Tryd.func61, Tryd.ntmps61
  go_wp2
  go_loop [8] (fun i => ∃ j : Nat, j ≤ n ∧ i = .int .i64 j ∧ Hid (∀ (i : Nat) (hi : i < zs.length), i < j → zs[i] = 0)) (fun i => n - (intOf i).toNat)
  case atStart => exact ⟨0, by omega, rfl, Lib.hid (fun _ _ h => by omega)⟩
  case round =>
    obtain ⟨j, hj, rfl, hall⟩ := hrel
    by_cases hjn : j < n
    · obtain ⟨g, o, hj1, rfl, hg, hcell⟩ := HR.out.at_ (j := j) (by omega)
      rw [ints_get] at hcell
      have hj' : j < zs.length := by rw [Hn.out]; exact hjn
      have hfalse : Hid (zs[j] ≠ 0 → orL zs = zs[j]) := Lib.hid (orL_at zs j hj' hall.out)
      have htrue : Hid (zs[j] = 0 → ∀ (i : Nat) (hi : i < zs.length), i < j + 1 → zs[i] = 0) := Lib.hid (fun h i hi hij => by
        rcases Nat.lt_or_ge i j with h1 | h1
        · exact hall.out i hi h1
        · obtain rfl : i = j := by omega
          exact h)
      generalize zs[j] = y at *
      by_cases hr : y = 0
      · have hz := Lib.hid (htrue.out hr)
        subst hr
        go_wp2
        go_round
        case rel => exact ⟨j + 1, by omega, by go_num, hz⟩
        case measure => simp [intOf]; omega
      · have hz := Lib.hid (hfalse.out hr)
        have hr' : (y == 0) = false := by rw [beq_eq_false_iff_ne]; exact hr
        go_wp2
        go_ret
        exact ⟨ret_int (by rw [hz.out]), rfl⟩
    · obtain rfl : j = n := by omega
      have hz : Hid (orL zs = 0) := Lib.hid (orL_zero zs fun i hi => hall.out i hi (by rw [← Hn.out]; exact hi))
      go_wp2
      go_ret
      exact ⟨ret_int (by rw [hz.out]), rfl⟩
end Go.Proofs.YtdbflfakocaapaaDoor
