/- A stream that counts what is left of it. -/
import Derived.Test.YtdbflfakocaapaaDoorStream
namespace Go.Proofs.YtdbflfakocaapaaDoor
open Go.RowKit

/-- A stream lies at block sb; r numbers are left. -/
def StreamR (w : World) (sb r : Nat) : Prop := ∃ (A : Option Addr) (n c k : Nat) (xs : List Int), w.heap[sb]? = some (.cells #[.slice A n c, .int .i64 k] 61 (0, 0)) ∧ k ≤ n ∧ n ≤ 2 ^ 48 ∧ (∀ x ∈ xs, inI x) ∧ Rd w sb 1 (ints xs) A n ∧ r = n - k
theorem StreamR.keep {w w' : World} {sb r : Nat} (h : StreamR w sb r) (hk : ∀ b, b ≤ sb → w'.heap[b]? = w.heap[b]?) : StreamR w' sb r := by
  obtain ⟨A, n, c, k, xs, h1, h2, h3, h4, h5, h6⟩ := h
  exact ⟨A, n, c, k, xs, (hk sb (Nat.le_refl _)).trans h1, h2, h3, h4, h5.keep (fun b hb => hk b (by omega)) (Nat.le_refl _), h6⟩
theorem StreamR.lt {w : World} {sb r : Nat} (h : StreamR w sb r) : sb < w.heap.size := by
  obtain ⟨A, n, c, k, xs, h1, _⟩ := h
  rcases Nat.lt_or_ge sb w.heap.size with hl | hl
  · exact hl
  · rw [Array.getElem?_eq_none hl] at h1; cases h1
theorem StreamR.below {w w' : World} {sb r C : Nat} (h : StreamR w sb r) (hb : Below C w w') (hC : sb < C) : StreamR w' sb r := h.keep fun b hb' => hb.block b (by omega)
theorem StreamR.le {w : World} {sb r : Nat} (h : StreamR w sb r) : r ≤ 2 ^ 48 := by
  obtain ⟨A, n, c, k, xs, _, _, h3, _, _, h6⟩ := h
  omega
/-- Some number between 0 and hi comes back; the stream has moved on, unless the number is 0; nothing else has changed. -/
def RetR (hi : Int) (sb r : Nat) (w : World) (e : Ending) (w' : World) : Prop := ∃ (x : Int) (r' : Nat), e = .returned (.int .i64 x) ∧ 0 ≤ x ∧ x ≤ hi ∧ StreamR w' sb r' ∧ w.grownBy w' (some sb) ∧ r' ≤ r ∧ (x ≠ 0 → r' < r)

theorem stream_setR {w : World} {sb : Nat} {A : Option Addr} {n c k k' : Nat} {xs : List Int} (h1 : w.heap[sb]? = some (.cells #[.slice A n c, .int .i64 k] 61 (0, 0))) (h2 : k' ≤ n) (h3 : n ≤ 2 ^ 48) (h4 : ∀ x ∈ xs, inI x) (h5 : Rd w sb 1 (ints xs) A n) (q : Nat) :
    StreamR ((w.drewN q).setCell ⟨sb, 1, none⟩ (.int .i64 k')) sb (n - k') ∧ w.grownBy ((w.drewN q).setCell ⟨sb, 1, none⟩ (.int .i64 k')) (some sb) := by
  refine ⟨⟨A, n, c, k', xs, ?_, h2, h3, h4, h5.keep (fun b hb => ?_) (Nat.le_refl _), rfl⟩, ⟨rfl, rfl, rfl, ?_, fun b hb hne => ?_⟩⟩
  · simp [World.setCell, Array.getElem?_modify, h1]
  · exact Below.heap_setCell _ _ _ _ (by show b ≠ sb; omega)
  · simp [World.setCell]
  · exact Below.heap_setCell _ _ _ _ (by intro e; exact hne (by rw [e]))

set_option maxHeartbeats 1000000 in
theorem c_NextR (m : Int) (sb r : Nat) (w : World) (h : StreamR w sb r) (hm : 1 ≤ m) (hm2 : m ≤ 2 ^ 40) :
    Calls Tryd.prog 49 #[.pointer (some ⟨sb, 0, none⟩), .int .i64 m] w (RetR (m - 1) sb r w) := by
  obtain ⟨A, n, c, k, xs, h1, h2, h3, h4, h5, h6⟩ := h
  have H6 := Lib.hid h6
  clear h6
  have q0 : w.cell? ⟨sb, 0, none⟩ = some (.slice A n c) := by rw [cell_of_row w sb 0 _ _ _ h1]; rfl
  have q1 : w.cell? ⟨sb, 1, none⟩ = some (.int .i64 k) := by rw [cell_of_row w sb 1 _ _ _ h1]; rfl
  have q2 : w.frozen? ⟨sb, 1, none⟩ = false := by simp [World.frozen?, h1]
  have H1 := Lib.hid h1
  have H4 := Lib.hid h4
  have H5 := Lib.hid h5
  clear h1 h4 h5
  by_cases hkn : k < n
  · obtain ⟨g, o, hj, rfl, hg, hcell⟩ := H5.out.at_ (j := k) (by omega)
    have hgsb : ¬ g = sb := by omega
    have hkn' : decide ((n : Int) ≤ (k : Int)) = false := by simp; omega
    rw [ints_get] at hcell
    have hj' : k < xs.length := by simpa [ints] using hj
    have hcell' : w.cell? ⟨g, o + k, none⟩ = some (.int .i64 xs[k]) := hcell
    generalize xs[k] = x at *
    have HST := Lib.hid (fun q => stream_setR (k' := k + 1) H1.out (by omega) h3 H4.out H5.out q)
    have hk0 : (0 : Int) ≤ (k : Int) := by omega
    have hk1 : (k : Int) < (n : Int) := by omega
    have e1 : IntKind.i64.wrap ((k : Int) + 1 - 1) = (k : Int) := by rw [show (k : Int) + 1 - 1 = (k : Int) by omega]; exact IntWalk.i64_in _ (by omega)
    go_enter Tryd.func49, Tryd.ntmps49
    go_wp2
    go_quiet (fail)
    go_wp2
    have hx : StreamR ((w.drewN nq).setCell ⟨sb, 1, none⟩ (.int .i64 ((k : Int) + 1))) sb (n - (k + 1)) ∧ w.grownBy ((w.drewN nq).setCell ⟨sb, 1, none⟩ (.int .i64 ((k : Int) + 1))) (some sb) ∧
        ((w.drewN nq).setCell ⟨sb, 1, none⟩ (.int .i64 ((k : Int) + 1))).cell? ⟨sb, 0, none⟩ = some (.slice (some ⟨g, o, none⟩) n c) ∧ ((w.drewN nq).setCell ⟨sb, 1, none⟩ (.int .i64 ((k : Int) + 1))).cell? ⟨sb, 1, none⟩ = some (.int .i64 ((k : Int) + 1)) ∧
        ((w.drewN nq).setCell ⟨sb, 1, none⟩ (.int .i64 ((k : Int) + 1))).cell? ⟨g, o + k, none⟩ = some (.int .i64 x) := by
      have h := HST.out nq
      refine ⟨h.1, h.2, ?_, ?_, ?_⟩
      · rw [World.cell?_setCell_other _ _ _ _ (by simp)]; exact q0
      · exact World.cell?_setCell_same _ _ _ (show (w.drewN nq).cell? ⟨sb, 1, none⟩ = some (.int .i64 k) from q1)
      · rw [World.cell?_setCell_other _ _ _ _ (by simp)]; exact hcell'
    generalize (w.drewN nq).setCell ⟨sb, 1, none⟩ (.int .i64 ((k : Int) + 1)) = W at *
    obtain ⟨hst, hgr, r0, r1, r2⟩ := hx
    have HST2 := Lib.hid hst
    have HGR := Lib.hid hgr
    clear hst hgr q0 q1 q2 hcell hcell'
    have hm1 := Int.emod_nonneg x (show m ≠ 0 by omega)
    have hm3 := Int.emod_lt_of_pos x (show 0 < m by omega)
    go_quiet ((go_at_call 20; exact Calls.quiet_of_same (c_Mod_q _ _ _ hm hm2)))
    go_wp2
    go_ret
    have h6 := H6.out
    exact ⟨_, _, rfl, hm1, by omega, HST2.out.keep (fun _ _ => rfl), ⟨HGR.out.os, HGR.out.tape, HGR.out.output, HGR.out.size, HGR.out.block⟩, by omega, fun _ => by omega⟩
  · have hkn' : decide ((n : Int) ≤ (k : Int)) = true := by simp; omega
    have hkn2 : (n : Int) ≤ (k : Int) := by omega
    have HS : Hid (StreamR w sb r) := Lib.hid ⟨A, n, c, k, xs, H1.out, h2, h3, H4.out, H5.out, H6.out⟩
    go_enter Tryd.func49, Tryd.ntmps49
    go_wp2
    go_quiet (fail)
    go_wp2
    go_ret
    exact ⟨0, r, rfl, by omega, by omega, HS.out.keep (fun _ _ => rfl), ⟨rfl, rfl, rfl, Nat.le_refl _, fun _ _ _ => rfl⟩, Nat.le_refl _, fun h => absurd rfl h⟩
set_option maxHeartbeats 400000 in
theorem c_NewR (xs : List Int) (v : Value) (w : World) (hv : IsInts w w.heap.size xs v) (hx : ∀ x ∈ xs, inI x) (hn : xs.length ≤ 2 ^ 48) :
    Calls Tryd.prog 13 #[v] w fun e w' => e = .returned (.pointer (some ⟨w.heap.size, 0, none⟩)) ∧ StreamR w' w.heap.size xs.length ∧ Below w.heap.size w w' ∧ w'.heap.size = w.heap.size + 1 := by
  obtain ⟨A, c, rfl, hc, hm, _, _, hr⟩ := hv
  have HR := Lib.hid hr
  have HX := Lib.hid hx
  clear hr hx
  generalize hl : xs.length = n at *
  go_enter Tryd.func13, Tryd.ntmps13
  go_wp2
  go_ret
  exact ⟨rfl, ⟨A, n, c, 0, xs, blk_new _ _, by omega, hn, HX.out, HR.out.below ((Below.refl _ _).alloc (Nat.le_refl _) _) (Nat.le_refl _), rfl⟩, (Below.refl _ _).alloc (Nat.le_refl _) _, by simp⟩
end Go.Proofs.YtdbflfakocaapaaDoor
