/- Contracts of SameInts and SameStrings: at equal lists they answer true. -/
import Derived.Test.YtdbflfakocaapaaDoorStrs
import Derived.Test.YtdbflfakocaapaaDoorInts
namespace Go.Proofs.YtdbflfakocaapaaDoor
open Go.RowKit
attribute [local go_sem ↓] Go.wp_at_zero Go.wp_at_succ

set_option maxHeartbeats 1000000 in
theorem c_SameInts (xs : List Int) (va vb : Value) (w : World) (Ba Bb : Nat) (ha : IsInts w Ba xs va) (hb : IsInts w Bb xs vb) (hBa : Ba ≤ w.heap.size) (hBb : Bb ≤ w.heap.size) (hn : xs.length ≤ 2 ^ 47) :
    Calls Tryd.prog 31 #[va, vb] w fun e w' => e = .returned (.bool true) ∧ Below w.heap.size w w' := by
  obtain ⟨A, c, rfl, _, _, _, _, hra⟩ := ha
  obtain ⟨A', c', rfl, _, _, _, _, hrb⟩ := hb
  generalize hl : xs.length = n at *
  have HA := Lib.hid hra
  have HB := Lib.hid hrb
  have HL := Lib.hid hl
  clear hra hrb hl
  go_enter Tryd.func31, Tryd.ntmps31
  go_wp2
  go_loopw [5] (fun i wr => ∃ j : Nat, j ≤ n ∧ i = .int .i64 j ∧ Below w.heap.size w wr) (fun i _ => n - (intOf i).toNat)
  case atStart => exact ⟨0, by omega, rfl, Below.refl _ _⟩
  case round =>
    obtain ⟨j, hj, rfl, hbw⟩ := hrel
    by_cases hjn : j < n
    · obtain ⟨_, h0 | ⟨g, o, rfl, hg, hc⟩⟩ := HA.out
      · omega
      obtain ⟨_, h0 | ⟨g', o', rfl, hg', hc'⟩⟩ := HB.out
      · omega
      have hx : ((ints xs))[j]? = some (Value.int .i64 (xs[j]'(by rw [HL.out]; exact hjn))) := by
        have hj' : j < xs.length := by rw [HL.out]; exact hjn
        simp [ints, hj']
      have k1 := (hbw.cell (p := ⟨g, o + j, none⟩) (show g < _ by omega)).trans (hc j _ hx)
      have k2 := (hbw.cell (p := ⟨g', o' + j, none⟩) (show g' < _ by omega)).trans (hc' j _ hx)
      generalize xs[j]'(by rw [HL.out]; exact hjn) = x at *
      clear hc hc' hx
      have hj0 : (0 : Int) ≤ (j : Int) := by omega
      have hj1 : (j : Int) < (n : Int) := by omega
      go_wp2
      go_region
      go_wp2
      go_roundw
      case rel => exact ⟨j + 1, by omega, by go_num, hbw.drew⟩
      case measure => simp [intOf]; omega
    · obtain rfl : j = n := by omega
      go_wp2
      go_ret
      exact ⟨rfl, hbw⟩
set_option maxHeartbeats 1000000 in
theorem c_SameStrings (xs : List ByteArray) (va vb : Value) (w : World) (Ba Bb : Nat) (ha : IsStrs w Ba xs va) (hb : IsStrs w Bb xs vb) (hBa : Ba ≤ w.heap.size) (hBb : Bb ≤ w.heap.size) (hn : xs.length ≤ 2 ^ 47) :
    Calls Tryd.prog 32 #[va, vb] w fun e w' => e = .returned (.bool true) ∧ Below w.heap.size w w' := by
  obtain ⟨A, c, rfl, _, _, _, _, hra⟩ := ha
  obtain ⟨A', c', rfl, _, _, _, _, hrb⟩ := hb
  generalize hl : xs.length = n at *
  have HA := Lib.hid hra
  have HB := Lib.hid hrb
  have HL := Lib.hid hl
  clear hra hrb hl
  go_enter Tryd.func32, Tryd.ntmps32
  go_wp2
  go_loopw [5] (fun i wr => ∃ j : Nat, j ≤ n ∧ i = .int .i64 j ∧ Below w.heap.size w wr) (fun i _ => n - (intOf i).toNat)
  case atStart => exact ⟨0, by omega, rfl, Below.refl _ _⟩
  case round =>
    obtain ⟨j, hj, rfl, hbw⟩ := hrel
    by_cases hjn : j < n
    · obtain ⟨_, h0 | ⟨g, o, rfl, hg, hc⟩⟩ := HA.out
      · omega
      obtain ⟨_, h0 | ⟨g', o', rfl, hg', hc'⟩⟩ := HB.out
      · omega
      have hx : ((strs xs))[j]? = some (Value.string (xs[j]'(by rw [HL.out]; exact hjn))) := by
        have hj' : j < xs.length := by rw [HL.out]; exact hjn
        simp [strs, hj']
      have k1 := (hbw.cell (p := ⟨g, o + j, none⟩) (show g < _ by omega)).trans (hc j _ hx)
      have k2 := (hbw.cell (p := ⟨g', o' + j, none⟩) (show g' < _ by omega)).trans (hc' j _ hx)
      generalize xs[j]'(by rw [HL.out]; exact hjn) = x at *
      clear hc hc' hx
      have hj0 : (0 : Int) ≤ (j : Int) := by omega
      have hj1 : (j : Int) < (n : Int) := by omega
      go_wp2
      go_region
      go_wp2
      go_roundw
      case rel => exact ⟨j + 1, by omega, by go_num, hbw.drew⟩
      case measure => simp [intOf]; omega
    · obtain rfl : j = n := by omega
      go_wp2
      go_ret
      exact ⟨rfl, hbw⟩
end Go.Proofs.YtdbflfakocaapaaDoor
