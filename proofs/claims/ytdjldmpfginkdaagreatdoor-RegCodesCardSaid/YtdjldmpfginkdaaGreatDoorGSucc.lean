/- Contract of telref25.next.
  Contracts of regcode.successors and telref25.next: the result is a row of its own. -/
import Derived.Test.YtdjldmpfginkdaaGreatDoorGRegB
namespace Go.Proofs.YtdjldmpfginkdaaGreatDoor
open Go.RowKit
attribute [local go_sem ↓] Go.wp_at_zero Go.wp_at_succ

set_option maxHeartbeats 4000000 in
theorem c_next (r0 r1 r3 : Value) (xs : List Ins) (v : Value) (i : Nat) (w : World) (B : Nat) (hv : IsInsl w B xs v) (hB : B ≤ w.heap.size) (hi : i < xs.length) (hm : xs.length ≤ 2 ^ 40) :
    Calls Tryz.prog 56 #[.agg #[r0, r1, v, r3], .int .i64 i] w (RetInts (succI xs[i].op xs[i].imm i) w) := by
  obtain ⟨Ai, ci, rfl, _, hh⟩ := hv
  rcases hh with hh | ⟨g, o, rfl, hg, hcs⟩
  · omega
  obtain ⟨A, c, TA, tc, EA, ec, hc, _, _⟩ := (hcs i hi).keep hg (fun b hb => (below_new w (.cells #[r0, r1, .slice (some ⟨g, o, none⟩) xs.length ci, r3] 26)).block b (by omega))
  obtain ⟨h0, h1, h2, h3, h4, h5, h6, h7, h8, h9, h10, h11, h12, h13, h14⟩ := hc
  have hi0 : (0 : Int) ≤ (i : Int) := by omega
  have hi1 : (i : Int) < (xs.length : Int) := by omega
  have hwr : IntKind.i64.wrap ((i : Int) + 1) = (i : Int) + 1 := IntWalk.i64_in _ (by omega)
  clear hcs
  generalize xs[i] = x at *
  generalize xs.length = n at *
  generalize x.op = op, x.dst = dst, x.a = xa, x.b = xb, x.imm = imm, x.name = nm, x.args.length = la, x.ty.kind = tk, x.ty.name = tn, x.ty.index = ti, x.ty.args.length = tl, x.ck = ck, x.ci = xci, x.cs = xcs, x.ce = xce at *
  go_enter Tryz.func56, Tryz.ntmps56
  go_wp2
  all_goals
    go_ret
    refine ⟨_, rfl, ?_, ?_⟩
    · first
        | (refine ints_of (IsInts.nil _ _) ?_; simp_all [succI]; done)
        | (refine ints_of (one_int _ _ _ ?_) ?_; (focus simp); simp_all [succI]; done)
        | (refine ints_of (two_ints _ _ _ _ ?_) ?_; (focus simp); clear h0 h1 h2 h3 h4 h5 h6 h7 h8 h9 h10 h11 h12 h13 h14; simp_all [succI]; rw [if_neg (by omega)]; first | (rw [if_pos (by omega)]; done) | (rw [if_neg (by omega)]; done))
        | (refine ints_of (one_int _ _ _ ?_) ?_; (focus simp); clear h0 h1 h2 h3 h4 h5 h6 h7 h8 h9 h10 h11 h12 h13 h14; simp_all [succI]; intro hq; exfalso; omega)
    · first | exact below_step (below_step (below_new _ _) (below_new _ _)) (below_new _ _) | exact below_step (below_new _ _) (below_new _ _)
end Go.Proofs.YtdjldmpfginkdaaGreatDoor
namespace Go.Proofs.YtdjldmpfginkdaaGreatDoor
open Go.RowKit
attribute [local go_sem ↓] Go.wp_at_zero Go.wp_at_succ

/-- A row of numbers in a block of its own from L on, or nil. -/
def RowRes (L : Nat) (w' : World) (xs : List Int) (v : Value) : Prop := (xs = [] ∧ v = .slice none 0 0) ∨ ∃ g, v = .slice (some ⟨g, 0, none⟩) xs.length xs.length ∧ L ≤ g ∧ RowV w' g 3 (ints xs)
def RetRow (xs : List Int) (w : World) (e : Ending) (w' : World) : Prop := ∃ v, e = .returned v ∧ RowRes w.heap.size w' xs v ∧ Below w.heap.size w w'
theorem res_nil {L : Nat} {W : World} {xs : List Int} (h : xs = []) : RowRes L W xs (.slice none 0 0) := .inl ⟨h, rfl⟩
theorem res_one {L : Nat} (W : World) (a : Int) (g : Nat) {xs : List Int} (hg : W.heap.size = g) (hL : L ≤ g) (h : xs = [a]) : RowRes L (W.alloc (.cells #[.int .i64 a] 3)) xs (.slice (some ⟨g, 0, none⟩) 1 1) := by
  subst hg; subst h
  exact .inr ⟨_, rfl, hL, blk_new _ _⟩
theorem res_two {L : Nat} (W : World) (a b : Int) (g : Nat) {xs : List Int} (hg : W.heap.size = g) (hL : L ≤ g) (h : xs = [a, b]) : RowRes L (W.alloc (.cells #[.int .i64 a, .int .i64 b] 3)) xs (.slice (some ⟨g, 0, none⟩) 2 2) := by
  subst hg; subst h
  exact .inr ⟨_, rfl, hL, blk_new _ _⟩
set_option maxHeartbeats 4000000 in
theorem c_successorsR (r0 r1 r3 : Value) (xs : List Ins) (v : Value) (i : Nat) (w : World) (B : Nat) (hv : IsInsl w B xs v) (hB : B ≤ w.heap.size) (hi : i < xs.length) (hm : xs.length ≤ 2 ^ 40) :
    Calls Tryz.prog 29 #[.agg #[r0, r1, v, r3], .int .i64 i] w (RetRow (succI xs[i].op xs[i].imm i) w) := by
  obtain ⟨Ai, ci, rfl, _, hh⟩ := hv
  rcases hh with hh | ⟨g, o, rfl, hg, hcs⟩
  · omega
  obtain ⟨A, c, TA, tc, EA, ec, hc, _, _⟩ := (hcs i hi).keep hg (fun b hb => (below_new w (.cells #[r0, r1, .slice (some ⟨g, o, none⟩) xs.length ci, r3] 26)).block b (by omega))
  obtain ⟨h0, h1, h2, h3, h4, h5, h6, h7, h8, h9, h10, h11, h12, h13, h14⟩ := hc
  have hi0 : (0 : Int) ≤ (i : Int) := by omega
  have hi1 : (i : Int) < (xs.length : Int) := by omega
  have hwr : IntKind.i64.wrap ((i : Int) + 1) = (i : Int) + 1 := IntWalk.i64_in _ (by omega)
  clear hcs
  generalize xs[i] = x at *
  generalize xs.length = n at *
  generalize x.op = op, x.dst = dst, x.a = xa, x.b = xb, x.imm = imm, x.name = nm, x.args.length = la, x.ty.kind = tk, x.ty.name = tn, x.ty.index = ti, x.ty.args.length = tl, x.ck = ck, x.ci = xci, x.cs = xcs, x.ce = xce at *
  go_enter Tryz.func29, Tryz.ntmps29
  go_wp2
  all_goals
    go_ret
    refine ⟨_, rfl, ?_, ?_⟩
    · first
        | exact res_nil (by simp_all [succI]; done)
        | exact res_one _ _ _ (by simp) (by omega) (by simp_all [succI]; done)
        | exact res_two _ _ _ _ (by simp) (by omega) (by simp_all [succI]; done)
    · first | exact below_step (below_step (below_new _ _) (below_new _ _)) (below_new _ _) | exact below_step (below_new _ _) (below_new _ _)
set_option maxHeartbeats 4000000 in
theorem c_nextR (r0 r1 r3 : Value) (xs : List Ins) (v : Value) (i : Nat) (w : World) (B : Nat) (hv : IsInsl w B xs v) (hB : B ≤ w.heap.size) (hi : i < xs.length) (hm : xs.length ≤ 2 ^ 40) :
    Calls Tryz.prog 56 #[.agg #[r0, r1, v, r3], .int .i64 i] w (RetRow (succI xs[i].op xs[i].imm i) w) := by
  obtain ⟨Ai, ci, rfl, _, hh⟩ := hv
  rcases hh with hh | ⟨g, o, rfl, hg, hcs⟩
  · omega
  obtain ⟨A, c, TA, tc, EA, ec, hc, _, _⟩ := (hcs i hi).keep hg (fun b hb => (below_new w (.cells #[r0, r1, .slice (some ⟨g, o, none⟩) xs.length ci, r3] 26)).block b (by omega))
  obtain ⟨h0, h1, h2, h3, h4, h5, h6, h7, h8, h9, h10, h11, h12, h13, h14⟩ := hc
  have hi0 : (0 : Int) ≤ (i : Int) := by omega
  have hi1 : (i : Int) < (xs.length : Int) := by omega
  have hwr : IntKind.i64.wrap ((i : Int) + 1) = (i : Int) + 1 := IntWalk.i64_in _ (by omega)
  clear hcs
  generalize xs[i] = x at *
  generalize xs.length = n at *
  generalize x.op = op, x.dst = dst, x.a = xa, x.b = xb, x.imm = imm, x.name = nm, x.args.length = la, x.ty.kind = tk, x.ty.name = tn, x.ty.index = ti, x.ty.args.length = tl, x.ck = ck, x.ci = xci, x.cs = xcs, x.ce = xce at *
  go_enter Tryz.func56, Tryz.ntmps56
  go_wp2
  all_goals
    go_ret
    refine ⟨_, rfl, ?_, ?_⟩
    · first
        | (refine res_nil ?_; simp_all [succI]; done)
        | (refine res_one _ _ _ ?_ ?_ ?_; (focus simp); (focus omega); simp_all [succI]; done)
        | (refine res_two _ _ _ _ ?_ ?_ ?_; (focus simp); (focus omega); clear h0 h1 h2 h3 h4 h5 h6 h7 h8 h9 h10 h11 h12 h13 h14; simp_all [succI]; rw [if_neg (by omega)]; first | (rw [if_pos (by omega)]; done) | (rw [if_neg (by omega)]; done))
        | (refine res_one _ _ _ ?_ ?_ ?_; (focus simp); (focus omega); clear h0 h1 h2 h3 h4 h5 h6 h7 h8 h9 h10 h11 h12 h13 h14; simp_all [succI]; intro hq; exfalso; omega)
    · first | exact below_step (below_step (below_new _ _) (below_new _ _)) (below_new _ _) | exact below_step (below_new _ _) (below_new _ _)
end Go.Proofs.YtdjldmpfginkdaaGreatDoor
