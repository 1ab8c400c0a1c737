/- slices.Values's iterator at []int, for a caller whose invariant keeps old memory. No statement of the seat is proved here. -/
import Derived.Test.YtnpmddhindidgaaGreatDoorTmN
import Derived.Test.YtnpmddhindidgaaGreatDoorProg
import Derived.RangeFuncBox
import Derived.RangeFuncLeaves
import Derived.Shelf.Abstract
import Derived.WalkKit
import Derived.OwnWalkIn
import Derived.TacticsInMore
import Derived.LoopNIn
import Derived.LoopIn
set_option linter.unusedVariables false
set_option linter.unusedSimpArgs false
namespace Go.Proofs
open Go.RowKit Go.Shelf Tm
attribute [local go_sem] Oper.semAt_some
/-- What has come when k rounds are over. -/
def Tryz.upto (f : Nat → Int) (k : Nat) : List Int := (List.range k).map f
theorem Tryz.upto_succ (f : Nat → Int) (k : Nat) : Tryz.upto f (k + 1) = Tryz.upto f k ++ [f k] := by simp [Tryz.upto, List.range_succ]
theorem Tryz.upto_length (f : Nat → Int) (k : Nat) : (Tryz.upto f k).length = k := by simp [Tryz.upto]
theorem Tryz.upto_all (zs : List Int) : Tryz.upto (fun j => zs[j]?.getD 0) zs.length = zs := by
  apply List.ext_getElem
  · simp [Tryz.upto]
  · intro i h1 h2
    simp [Tryz.upto, h2]
set_option maxRecDepth 100000 in
set_option maxHeartbeats 2000000 in
theorem Tryz.values1 (F : Fence) (n : Nat) (h7 : F.fn 133) (hro : F.round = none) (hn : 1 ≤ n) (l Bs b off cap : Nat) (zs : List Int) (w0 : World) (hreach : zs.length * 8 ≤ 140737488351232) (hb : b < w0.heap.size) (J : List Int → World → Prop) (hJB : ∀ pre W1, J pre W1 → Below w0.heap.size w0 W1)
    (hY : ∀ pre x W, J pre W → pre.length < zs.length → YieldAt F (n - 1) Tryz.prog l #[.int .i64 x] W fun e W' => e = .returned (.bool true) ∧ J (pre ++ [x]) W' ∧ KeepsWalks W W')
    (W : World) (hBs : W.cell? ⟨Bs, 0, none⟩ = some (.slice (some ⟨b, off, none⟩) zs.length cap)) (hc : ∀ j, j < zs.length → w0.cell? ⟨b, off + j, none⟩ = some (.int .i64 (zs[j]?.getD 0))) (h0 : J [] W) :
    CallsIn F n Tryz.prog 133 #[.func (.yield l) #[] #[], .pointer (some ⟨Bs, 0, none⟩)] W fun e W' => (∃ v, e = .returned v) ∧ J zs W' := by
  refine callsIn_of_wp Tryz.func133 rfl h7 ?_ hro
  simp only [Tryz.ntmps133, List.size_toArray, List.length_cons, List.length_nil, Nat.reduceAdd, Nat.reduceSub, Array.replicate_succ, Array.replicate_zero, List.push_toArray, List.append_toArray, List.nil_append, List.cons_append]
  gi_wp2
  gi_loopw [7] (fun i wr => ∃ k : Nat, k ≤ zs.length ∧ i = .int .i64 k ∧ J (Tryz.upto (fun j => zs[j]?.getD 0) k) wr)
    (fun i _ => zs.length - (intOf i).toNat)
  case atStart => exact ⟨0, Nat.zero_le _, rfl, h0⟩
  case round =>
    obtain ⟨k, hk, rfl, hJs⟩ := hrel
    have hcx : k < zs.length → wr.cell? ⟨b, off + k, none⟩ = some (.int .i64 (zs[k]?.getD 0)) := fun h => ((hJB _ _ hJs).cell (p := ⟨b, off + k, none⟩) hb).trans (hc k h)
    by_cases hlt : k < zs.length
    · obtain ⟨x, hx⟩ : ∃ x, zs[k]?.getD 0 = x := ⟨_, rfl⟩
      obtain ⟨fn, tmps, assign, body, hy, hR⟩ := hY _ x wr hJs (by rw [Tryz.upto_length]; exact hlt)
      have hcx' := hcx hlt
      rw [hx] at hcx'
      clear hcx
      gi_wp2
      refine hR.mono ?_
      rintro e W3 ⟨rfl, hJ3, hk3⟩
      gi_wp2
      go_roundw
      case rel => exact ⟨k + 1, by omega, by simp, by rw [Tryz.upto_succ, hx]; exact hJ3⟩
      case measure => simp [intOf]; omega
    · obtain rfl : k = zs.length := by omega
      gi_wp2
      go_end0
      exact ⟨⟨_, rfl⟩, by rw [Tryz.upto_all] at hJs; exact hJs⟩
set_option maxRecDepth 100000 in
set_option maxHeartbeats 1000000 in
theorem Tryz.values1_nil (F : Fence) (n : Nat) (h7 : F.fn 133) (hro : F.round = none) (l Bs cap : Nat) (A : Option Addr) (J : List Int → World → Prop) (W : World) (hBs : W.cell? ⟨Bs, 0, none⟩ = some (.slice A 0 cap)) (h0 : J [] W) :
    CallsIn F n Tryz.prog 133 #[.func (.yield l) #[] #[], .pointer (some ⟨Bs, 0, none⟩)] W fun e W' => (∃ v, e = .returned v) ∧ J [] W' := by
  refine callsIn_of_wp Tryz.func133 rfl h7 ?_ hro
  simp only [Tryz.ntmps133, List.size_toArray, List.length_cons, List.length_nil, Nat.reduceAdd, Nat.reduceSub, Array.replicate_succ, Array.replicate_zero, List.push_toArray, List.append_toArray, List.nil_append, List.cons_append]
  gi_wp2
  gi_loopw [7] (fun i wr => i = .int .i64 0 ∧ J [] wr) (fun _ _ => 0)
  case atStart => exact ⟨rfl, h0⟩
  case round =>
    obtain ⟨rfl, hJs⟩ := hrel
    gi_wp2
    go_end0
    exact ⟨⟨_, rfl⟩, hJs⟩
theorem Tryz.values_give : ValuesGive Tryz.prog 133 := fun n Bs sv zs w hn hBs hr hc hI l J W hW hJ hJB hY h0 => by
  have hc' := (hW.cell (p := ⟨Bs, 0, none⟩) hBs).trans hc
  rcases hI with ⟨A, c, rfl, rfl⟩ | ⟨b, off, cap, rfl, hb, hcs⟩
  · exact (Tryz.values1_nil Fence.wide n trivial rfl l Bs c A J W hc' h0).mono fun e W' ⟨he, hj⟩ => ⟨he, _, rfl, hj⟩
  · exact (Tryz.values1 Fence.wide n trivial rfl hn l Bs b off cap zs w hr hb J hJB hY W hc' hcs h0).mono fun e W' ⟨he, hj⟩ => ⟨he, _, rfl, hj⟩
end Go.Proofs
