/- Contracts of telmake.Mod, New, Next, Raw: a stream yields numbers in range. -/
import Derived.Test.YtdbflfakocaapaaDoorStrs
import Derived.Deep.QuietTactic
import Derived.BigQuiet
namespace Go.Proofs.YtdbflfakocaapaaDoor
open Go.RowKit

set_option maxHeartbeats 400000 in
theorem c_Mod (a m : Int) (w : World) (hm : 1 ≤ m) (hm2 : m ≤ 2 ^ 40) : Calls Tryd.prog 20 #[.int .i64 a, .int .i64 m] w fun e w' => e = .returned (.int .i64 (a % m)) ∧ w = w' := by
  have h1 := Int.tmod_eq_emod (a := a) (b := m)
  have h2 := Int.emod_nonneg a (show m ≠ 0 by omega)
  have h3 := Int.emod_lt_of_pos a (show 0 < m by omega)
  have hz : (m == 0) = false := by rw [beq_eq_false_iff_ne]; omega
  have hz2 : ¬ m = 0 := by omega
  by_cases hneg : a.tmod m < 0
  · have hr : Hid (a.tmod m + m = a % m) := Lib.hid (by rw [h1] at hneg ⊢; split at hneg <;> rename_i hc <;> simp only [hc, if_true, if_false] <;> omega)
    have hb : -m ≤ a.tmod m := by have := hr.out; omega
    clear h1 h2 h3
    go_enter Tryd.func20, Tryd.ntmps20
    go_wp2
    go_ret
    exact ⟨ret_int (by rw [← hr.out]), rfl⟩
  · have hr : Hid (a.tmod m = a % m) := Lib.hid (by rw [h1] at hneg ⊢; split <;> rename_i hc <;> simp only [hc, if_false] at hneg <;> omega)
    have hb : a.tmod m < m := by have := hr.out; omega
    clear h1 h2 h3
    go_enter Tryd.func20, Tryd.ntmps20
    go_wp2
    go_ret
    exact ⟨ret_int (by rw [← hr.out]), rfl⟩
theorem c_Mod_q (a m : Int) (w : World) (hm : 1 ≤ m) (hm2 : m ≤ 2 ^ 40) : Calls Tryd.prog 20 #[.int .i64 a, .int .i64 m] w fun e w' => e = .returned (.int .i64 (a % m)) ∧ w' = w :=
  (c_Mod a m w hm hm2).mono fun _ _ ⟨h1, h2⟩ => ⟨h1, h2.symm⟩

/-- A stream lies at block sb: a list of ints in older memory, and a position. -/
def StreamOk (w : World) (sb : Nat) : Prop := ∃ (A : Option Addr) (n c k : Nat) (xs : List Int), w.heap[sb]? = some (.cells #[.slice A n c, .int .i64 k] 61 (0, 0)) ∧ k ≤ n ∧ n ≤ 2 ^ 47 ∧ (∀ x ∈ xs, inI x) ∧ Rd w sb 1 (ints xs) A n
theorem StreamOk.keep {w w' : World} {sb : Nat} (h : StreamOk w sb) (hk : ∀ b, b ≤ sb → w'.heap[b]? = w.heap[b]?) : StreamOk w' sb := by
  obtain ⟨A, n, c, k, xs, h1, h2, h3, h4, h5⟩ := h
  exact ⟨A, n, c, k, xs, (hk sb (Nat.le_refl _)).trans h1, h2, h3, h4, h5.keep (fun b hb => hk b (by omega)) (Nat.le_refl _)⟩
theorem StreamOk.lt {w : World} {sb : Nat} (h : StreamOk w sb) : sb < w.heap.size := by
  obtain ⟨A, n, c, k, xs, h1, _⟩ := h
  rcases Nat.lt_or_ge sb w.heap.size with hl | hl
  · exact hl
  · rw [Array.getElem?_eq_none hl] at h1; cases h1
theorem StreamOk.below {w w' : World} {sb C : Nat} (h : StreamOk w sb) (hb : Below C w w') (hC : sb < C) : StreamOk w' sb := h.keep fun b hb' => hb.block b (by omega)

/-- Some number between lo and hi comes back; the stream has moved on, nothing else has changed. -/
def RetNum (lo hi : Int) (sb : Nat) (w : World) (e : Ending) (w' : World) : Prop := ∃ r : Int, e = .returned (.int .i64 r) ∧ lo ≤ r ∧ r ≤ hi ∧ StreamOk w' sb ∧ w.grownBy w' (some sb)

theorem stream_set {w : World} {sb : Nat} {A : Option Addr} {n c k k' : Nat} {xs : List Int} (h1 : w.heap[sb]? = some (.cells #[.slice A n c, .int .i64 k] 61 (0, 0))) (h2 : k' ≤ n) (h3 : n ≤ 2 ^ 47) (h4 : ∀ x ∈ xs, inI x) (h5 : Rd w sb 1 (ints xs) A n) (q : Nat) :
    StreamOk ((w.drewN q).setCell ⟨sb, 1, none⟩ (.int .i64 k')) sb ∧ w.grownBy ((w.drewN q).setCell ⟨sb, 1, none⟩ (.int .i64 k')) (some sb) := by
  refine ⟨⟨A, n, c, k', xs, ?_, h2, h3, h4, h5.keep (fun b hb => ?_) (Nat.le_refl _)⟩, ⟨rfl, rfl, rfl, ?_, fun b hb hne => ?_⟩⟩
  · simp [World.setCell, Array.getElem?_modify, h1]
  · exact Below.heap_setCell _ _ _ _ (by show b ≠ sb; omega)
  · simp [World.setCell]
  · exact Below.heap_setCell _ _ _ _ (by intro e; exact hne (by rw [e]))

set_option maxHeartbeats 1000000 in
theorem c_Next (m : Int) (sb : Nat) (w : World) (h : StreamOk w sb) (hm : 1 ≤ m) (hm2 : m ≤ 2 ^ 40) :
    Calls Tryd.prog 49 #[.pointer (some ⟨sb, 0, none⟩), .int .i64 m] w (RetNum 0 (m - 1) sb w) := by
  obtain ⟨A, n, c, k, xs, h1, h2, h3, h4, h5⟩ := h
  have q0 : w.cell? ⟨sb, 0, none⟩ = some (.slice A n c) := by rw [cell_of_row w sb 0 _ _ _ h1]; rfl
  have q1 : w.cell? ⟨sb, 1, none⟩ = some (.int .i64 k) := by rw [cell_of_row w sb 1 _ _ _ h1]; rfl
  have q2 : w.frozen? ⟨sb, 1, none⟩ = false := by simp [World.frozen?, h1]
  have H1 := Lib.hid h1
  have H4 := Lib.hid h4
  have H5 := Lib.hid h5
  clear h1 h4 h5
  by_cases hkn : k < n
  · obtain ⟨g, o, hj, rfl, hg, hcell⟩ := H5.out.at_ (j := k) (by omega)
    have hgsb : ¬ g = sb := by omega
    have hkn' : decide ((n : Int) ≤ (k : Int)) = false := by simp; omega
    rw [ints_get] at hcell
    have hj' : k < xs.length := by simpa [ints] using hj
    have hcell' : w.cell? ⟨g, o + k, none⟩ = some (.int .i64 xs[k]) := hcell
    generalize xs[k] = x at *
    have HST := Lib.hid (fun q => stream_set (k' := k + 1) H1.out (by omega) h3 H4.out H5.out q)
    have hk0 : (0 : Int) ≤ (k : Int) := by omega
    have hk1 : (k : Int) < (n : Int) := by omega
    have e1 : IntKind.i64.wrap ((k : Int) + 1 - 1) = (k : Int) := by rw [show (k : Int) + 1 - 1 = (k : Int) by omega]; exact IntWalk.i64_in _ (by omega)
    go_enter Tryd.func49, Tryd.ntmps49
    go_wp2
    go_quiet (fail)
    go_wp2
    have hx : StreamOk ((w.drewN nq).setCell ⟨sb, 1, none⟩ (.int .i64 ((k : Int) + 1))) sb ∧ w.grownBy ((w.drewN nq).setCell ⟨sb, 1, none⟩ (.int .i64 ((k : Int) + 1))) (some sb) ∧
        ((w.drewN nq).setCell ⟨sb, 1, none⟩ (.int .i64 ((k : Int) + 1))).cell? ⟨sb, 0, none⟩ = some (.slice (some ⟨g, o, none⟩) n c) ∧ ((w.drewN nq).setCell ⟨sb, 1, none⟩ (.int .i64 ((k : Int) + 1))).cell? ⟨sb, 1, none⟩ = some (.int .i64 ((k : Int) + 1)) ∧
        ((w.drewN nq).setCell ⟨sb, 1, none⟩ (.int .i64 ((k : Int) + 1))).cell? ⟨g, o + k, none⟩ = some (.int .i64 x) := by
      have h := HST.out nq
      refine ⟨h.1, h.2, ?_, ?_, ?_⟩
      · rw [World.cell?_setCell_other _ _ _ _ (by simp)]; exact q0
      · exact World.cell?_setCell_same _ _ _ (show (w.drewN nq).cell? ⟨sb, 1, none⟩ = some (.int .i64 k) from q1)
      · rw [World.cell?_setCell_other _ _ _ _ (by simp)]; exact hcell'
    generalize (w.drewN nq).setCell ⟨sb, 1, none⟩ (.int .i64 ((k : Int) + 1)) = W at *
    obtain ⟨hst, hgr, r0, r1, r2⟩ := hx
    have HST2 := Lib.hid hst
    have HGR := Lib.hid hgr
    clear hst hgr q0 q1 q2 hcell hcell'
    have hm1 := Int.emod_nonneg x (show m ≠ 0 by omega)
    have hm3 := Int.emod_lt_of_pos x (show 0 < m by omega)
    go_quiet ((go_at_call 20; exact Calls.quiet_of_same (c_Mod_q _ _ _ hm hm2)))
    go_wp2
    go_ret
    exact ⟨_, rfl, hm1, by omega, HST2.out.keep (fun _ _ => rfl), ⟨HGR.out.os, HGR.out.tape, HGR.out.output, HGR.out.size, HGR.out.block⟩⟩
  · have hkn' : decide ((n : Int) ≤ (k : Int)) = true := by simp; omega
    have hkn2 : (n : Int) ≤ (k : Int) := by omega
    have HS : Hid (StreamOk w sb) := Lib.hid ⟨A, n, c, k, xs, H1.out, h2, h3, H4.out, H5.out⟩
    go_enter Tryd.func49, Tryd.ntmps49
    go_wp2
    go_quiet (fail)
    go_wp2
    go_ret
    exact ⟨0, rfl, by omega, by omega, HS.out.keep (fun _ _ => rfl), ⟨rfl, rfl, rfl, Nat.le_refl _, fun _ _ _ => rfl⟩⟩
set_option maxHeartbeats 1000000 in
theorem c_Raw (sb : Nat) (w : World) (h : StreamOk w sb) :
    Calls Tryd.prog 50 #[.pointer (some ⟨sb, 0, none⟩)] w (RetNum (-9223372036854775808) 9223372036854775807 sb w) := by
  obtain ⟨A, n, c, k, xs, h1, h2, h3, h4, h5⟩ := h
  have q0 : w.cell? ⟨sb, 0, none⟩ = some (.slice A n c) := by rw [cell_of_row w sb 0 _ _ _ h1]; rfl
  have q1 : w.cell? ⟨sb, 1, none⟩ = some (.int .i64 k) := by rw [cell_of_row w sb 1 _ _ _ h1]; rfl
  have q2 : w.frozen? ⟨sb, 1, none⟩ = false := by simp [World.frozen?, h1]
  have H1 := Lib.hid h1
  have H4 := Lib.hid h4
  have H5 := Lib.hid h5
  clear h1 h4 h5
  by_cases hkn : k < n
  · obtain ⟨g, o, hj, rfl, hg, hcell⟩ := H5.out.at_ (j := k) (by omega)
    have hgsb : ¬ g = sb := by omega
    have hkn' : decide ((n : Int) ≤ (k : Int)) = false := by simp; omega
    rw [ints_get] at hcell
    have hj' : k < xs.length := by simpa [ints] using hj
    have hcell' : w.cell? ⟨g, o + k, none⟩ = some (.int .i64 xs[k]) := hcell
    have HXI : Hid (inI xs[k]) := Lib.hid (H4.out _ (List.getElem_mem hj'))
    generalize xs[k] = x at *
    have HST := Lib.hid (fun q => stream_set (k' := k + 1) H1.out (by omega) h3 H4.out H5.out q)
    have hk0 : (0 : Int) ≤ (k : Int) := by omega
    have hk1 : (k : Int) < (n : Int) := by omega
    have e1 : IntKind.i64.wrap ((k : Int) + 1 - 1) = (k : Int) := by rw [show (k : Int) + 1 - 1 = (k : Int) by omega]; exact IntWalk.i64_in _ (by omega)
    go_enter Tryd.func50, Tryd.ntmps50
    go_wp2
    go_quiet (fail)
    go_wp2
    have hx : StreamOk ((w.drewN nq).setCell ⟨sb, 1, none⟩ (.int .i64 ((k : Int) + 1))) sb ∧ w.grownBy ((w.drewN nq).setCell ⟨sb, 1, none⟩ (.int .i64 ((k : Int) + 1))) (some sb) ∧
        ((w.drewN nq).setCell ⟨sb, 1, none⟩ (.int .i64 ((k : Int) + 1))).cell? ⟨sb, 0, none⟩ = some (.slice (some ⟨g, o, none⟩) n c) ∧ ((w.drewN nq).setCell ⟨sb, 1, none⟩ (.int .i64 ((k : Int) + 1))).cell? ⟨sb, 1, none⟩ = some (.int .i64 ((k : Int) + 1)) ∧
        ((w.drewN nq).setCell ⟨sb, 1, none⟩ (.int .i64 ((k : Int) + 1))).cell? ⟨g, o + k, none⟩ = some (.int .i64 x) := by
      have h := HST.out nq
      refine ⟨h.1, h.2, ?_, ?_, ?_⟩
      · rw [World.cell?_setCell_other _ _ _ _ (by simp)]; exact q0
      · exact World.cell?_setCell_same _ _ _ (show (w.drewN nq).cell? ⟨sb, 1, none⟩ = some (.int .i64 k) from q1)
      · rw [World.cell?_setCell_other _ _ _ _ (by simp)]; exact hcell'
    generalize (w.drewN nq).setCell ⟨sb, 1, none⟩ (.int .i64 ((k : Int) + 1)) = W at *
    obtain ⟨hst, hgr, r0, r1, r2⟩ := hx
    have HST2 := Lib.hid hst
    have HGR := Lib.hid hgr
    clear hst hgr q0 q1 q2 hcell hcell'
    go_quiet (fail)
    go_wp2
    go_ret
    exact ⟨_, rfl, HXI.out.1, HXI.out.2, HST2.out.keep (fun _ _ => rfl), ⟨HGR.out.os, HGR.out.tape, HGR.out.output, HGR.out.size, HGR.out.block⟩⟩
  · have hkn' : decide ((n : Int) ≤ (k : Int)) = true := by simp; omega
    have hkn2 : (n : Int) ≤ (k : Int) := by omega
    have HS : Hid (StreamOk w sb) := Lib.hid ⟨A, n, c, k, xs, H1.out, h2, h3, H4.out, H5.out⟩
    go_enter Tryd.func50, Tryd.ntmps50
    go_wp2
    go_quiet (fail)
    go_wp2
    go_ret
    exact ⟨0, rfl, by omega, by omega, HS.out.keep (fun _ _ => rfl), ⟨rfl, rfl, rfl, Nat.le_refl _, fun _ _ _ => rfl⟩⟩

set_option maxHeartbeats 400000 in
theorem c_New (xs : List Int) (v : Value) (w : World) (hv : IsInts w w.heap.size xs v) (hx : ∀ x ∈ xs, inI x) (hn : xs.length ≤ 2 ^ 47) :
    Calls Tryd.prog 13 #[v] w fun e w' => e = .returned (.pointer (some ⟨w.heap.size, 0, none⟩)) ∧ StreamOk w' w.heap.size ∧ Below w.heap.size w w' ∧ w'.heap.size = w.heap.size + 1 := by
  obtain ⟨A, c, rfl, hc, hm, _, _, hr⟩ := hv
  have HR := Lib.hid hr
  have HX := Lib.hid hx
  clear hr hx
  generalize hl : xs.length = n at *
  go_enter Tryd.func13, Tryd.ntmps13
  go_wp2
  go_ret
  exact ⟨rfl, ⟨A, n, c, 0, xs, blk_new _ _, by omega, hn, HX.out, HR.out.below ((Below.refl _ _).alloc (Nat.le_refl _) _) (Nat.le_refl _)⟩, (Below.refl _ _).alloc (Nat.le_refl _) _, by simp⟩
end Go.Proofs.YtdbflfakocaapaaDoor
