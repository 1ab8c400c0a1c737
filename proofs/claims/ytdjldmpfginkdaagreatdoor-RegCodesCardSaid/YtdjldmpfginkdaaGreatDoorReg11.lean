/- Contracts of telref22.Named, FromValue. -/
import Derived.Test.YtdjldmpfginkdaaGreatDoorGRegC
import Derived.Test.YtdjldmpfginkdaaGreatDoorGOrd
import Derived.BigGuard
import Derived.Laws.Tables
namespace Go.Proofs.YtdjldmpfginkdaaGreatDoor
open Go.RowKit
attribute [local go_sem ↓] Go.wp_at_zero Go.wp_at_succ

/-- An abstract value of a constant, as its nine cells; b: whether there is one. -/
def absV (b : Bool) (nm : ByteArray) (ck ci : Int) (cs : ByteArray) : Value :=
  if b then .agg #[.int .i64 2, .string nm, .int .i64 0, .slice none 0 0, .bool true, .int .i64 ck, .int .i64 ci, .string cs, .slice none 0 0]
  else .agg #[.int .i64 0, .string ⟨#[]⟩, .int .i64 0, .slice none 0 0, .bool false, .int .i64 0, .int .i64 0, .string ⟨#[]⟩, .slice none 0 0]
def LitR (ck ci : Int) (cs : ByteArray) (ce : Nat) (w : World) (e : Ending) (w' : World) : Prop := ∃ nm, e = .returned (.tuple #[absV (litF ck ci cs ce) nm ck ci cs, .bool (litF ck ci cs ce)]) ∧ Below w.heap.size w w'

theorem row9 {w w2 : World} {b : Nat} {x0 x1 x2 x3 x4 x5 x6 x7 x8 : Value} {T : TypeId} {old : Array Value} (hb : Below w.heap.size w w2) (hle : w.heap.size ≤ b) (h : w2.heap[b]? = some (.cells old T (0, 0))) (WF : World) (hW : WF = w2.setRow b #[x0, x1, x2, x3, x4, x5, x6, x7, x8]) :
    Below w.heap.size w WF ∧ WF.cell? ⟨b, 0, none⟩ = some x0 ∧ WF.cell? ⟨b, 1, none⟩ = some x1 ∧ WF.cell? ⟨b, 2, none⟩ = some x2 ∧ WF.cell? ⟨b, 3, none⟩ = some x3 ∧ WF.cell? ⟨b, 4, none⟩ = some x4 ∧ WF.cell? ⟨b, 5, none⟩ = some x5 ∧ WF.cell? ⟨b, 6, none⟩ = some x6 ∧ WF.cell? ⟨b, 7, none⟩ = some x7 ∧ WF.cell? ⟨b, 8, none⟩ = some x8 := by
  subst hW
  have h1 := setRow_heap w2 b _ #[x0, x1, x2, x3, x4, x5, x6, x7, x8] T _ h
  refine ⟨⟨hb.os, hb.tape, hb.output, by simp; exact hb.size, fun k hk => by
    rw [setRow_other w2 b k _ (by omega)]
    exact hb.block k hk⟩, ?_⟩
  refine ⟨?_, ?_, ?_, ?_, ?_, ?_, ?_, ?_, ?_⟩
  all_goals (rw [cell_of_row _ b _ _ _ _ h1]; rfl)
set_option maxHeartbeats 1000000 in
theorem c_Named22 (nm : ByteArray) (w : World) : Calls Tryz.prog 73 #[.string nm] w fun e w' => e = .returned (.agg #[.int .i64 2, .string nm, .int .i64 0, .slice none 0 0]) ∧ Below w.heap.size w w' := by
  go_enter Tryz.func73, Tryz.ntmps73
  go_wp2
  exact bodyPost_ret (v := .agg #[.int .i64 2, .string nm, .int .i64 0, .slice none 0 0]) (by simp [results, Tryz.results73, go_sem]) rfl ⟨rfl, below_new _ _⟩
set_option maxRecDepth 100000 in
set_option maxHeartbeats 8000000 in
theorem c_FromValue (ck ci : Int) (cs : ByteArray) (EA : Option Addr) (ce ec : Nat) (w : World) (hs : cs.size ≤ 2 ^ 47) :
    Calls Tryz.prog 52 #[.agg #[.int .i64 ck, .int .i64 ci, .string cs, .slice EA ce ec]] w (LitR ck ci cs ce w) := by
  have HZ : Hid (litF ck ci cs ce = false → ∀ W : World, Below w.heap.size w W → LitR ck ci cs ce w (.returned (.tuple #[.agg #[.int .i64 0, .string ⟨#[]⟩, .int .i64 0, .slice none 0 0, .bool false, .int .i64 0, .int .i64 0, .string ⟨#[]⟩, .slice none 0 0], .bool false])) W) := Lib.hid (fun h W hW => ⟨⟨#[]⟩, by rw [h]; rfl, hW⟩)
  have HT : Hid (litF ck ci cs ce = true → ∀ (nm : ByteArray) (W : World), Below w.heap.size w W → LitR ck ci cs ce w (.returned (.tuple #[.agg #[.int .i64 2, .string nm, .int .i64 0, .slice none 0 0, .bool true, .int .i64 ck, .int .i64 ci, .string cs, .slice none 0 0], .bool true])) W) := Lib.hid (fun h nm W hW => ⟨nm, by rw [h]; rfl, hW⟩)
  by_cases hce : 0 < ce
  · have HF := Lib.hid (HZ.out (litF_elems (ck := ck) (ci := ci) (cs := cs) hce))
    have hce1 : (0 : Int) < (ce : Int) := by omega
    clear HZ HT
    go_enter Tryz.func52, Tryz.ntmps52
    go_wp2
    exact bodyPost_ret (v := .tuple #[.agg #[.int .i64 0, .string ⟨#[]⟩, .int .i64 0, .slice none 0 0, .bool false, .int .i64 0, .int .i64 0, .string ⟨#[]⟩, .slice none 0 0], .bool false]) (by simp [results, Tryz.results52, go_sem]) rfl (HF.out _ (below_step (below_new _ _) (below_new _ _)))
  obtain rfl : ce = 0 := by omega
  have HW : Hid (∀ W : World, W = (w.alloc (.cells #[.int .i64 ck, .int .i64 ci, .string cs, .slice EA 0 ec] 36)).alloc (.cells #[.int .i64 0, .string ⟨#[]⟩, .int .i64 0, .slice none 0 0, .bool false, .int .i64 0, .int .i64 0, .string ⟨#[]⟩, .slice none 0 0] 82) → Below w.heap.size w W ∧ w.heap.size + 1 < W.heap.size ∧
      W.heap[w.heap.size + 1]? = some (.cells #[.int .i64 0, .string ⟨#[]⟩, .int .i64 0, .slice none 0 0, .bool false, .int .i64 0, .int .i64 0, .string ⟨#[]⟩, .slice none 0 0] 82 (0, 0)) ∧
      W.cell? ⟨w.heap.size, 0, none⟩ = some (.int .i64 ck) ∧ W.cell? ⟨w.heap.size, 1, none⟩ = some (.int .i64 ci) ∧ W.cell? ⟨w.heap.size, 2, none⟩ = some (.string cs) ∧ W.cell? ⟨w.heap.size, 3, none⟩ = some (.slice EA 0 ec)) := Lib.hid (fun W hW => by
    subst hW
    have h1 := blk_old (o' := .cells #[.int .i64 0, .string ⟨#[]⟩, .int .i64 0, .slice none 0 0, .bool false, .int .i64 0, .int .i64 0, .string ⟨#[]⟩, .slice none 0 0] 82) (blk_new w (.cells #[.int .i64 ck, .int .i64 ci, .string cs, .slice EA 0 ec] 36))
    refine ⟨below_step (below_new _ _) (below_new _ _), by simp, blk_new2 _ _ _, ?_, ?_, ?_, ?_⟩
    all_goals (rw [cell_of_row _ w.heap.size _ _ _ _ h1]; rfl))
  cases hL : litF ck ci cs 0
  · have HF := Lib.hid (HZ.out hL)
    clear HZ HT
    by_cases h0 : ck = 0
    · subst h0
      by_cases h1 : ci = 0
      · subst h1
        have hz : cs.toList.isEmpty = false := by
          cases h : cs.toList.isEmpty
          · rfl
          · exfalso; have hq := (toList_nil cs).1 (List.isEmpty_iff.1 h); revert hL; simp [litF, hq]
        clear hL HW hs hce
        go_enter Tryz.func52, Tryz.ntmps52
        go_wp2
        exact bodyPost_ret (v := .tuple #[.agg #[.int .i64 0, .string ⟨#[]⟩, .int .i64 0, .slice none 0 0, .bool false, .int .i64 0, .int .i64 0, .string ⟨#[]⟩, .slice none 0 0], .bool false]) (by simp [results, Tryz.results52, go_sem]) rfl (HF.out _ (below_step (below_new _ _) (below_new _ _)))
      · have k1 := beq_f h1
        clear hL HW hs hce
        go_enter Tryz.func52, Tryz.ntmps52
        go_wp2
        exact bodyPost_ret (v := .tuple #[.agg #[.int .i64 0, .string ⟨#[]⟩, .int .i64 0, .slice none 0 0, .bool false, .int .i64 0, .int .i64 0, .string ⟨#[]⟩, .slice none 0 0], .bool false]) (by simp [results, Tryz.results52, go_sem]) rfl (HF.out _ (below_step (below_new _ _) (below_new _ _)))
    have k0 := beq_f h0
    by_cases h1 : ck = 1
    · subst h1
      have hz : cs.toList.isEmpty = false := by
        cases h : cs.toList.isEmpty
        · rfl
        · exfalso; have hq := (toList_nil cs).1 (List.isEmpty_iff.1 h); revert hL; simp [litF, hq]
      clear hL HW hs hce
      go_enter Tryz.func52, Tryz.ntmps52
      go_wp2
      exact bodyPost_ret (v := .tuple #[.agg #[.int .i64 0, .string ⟨#[]⟩, .int .i64 0, .slice none 0 0, .bool false, .int .i64 0, .int .i64 0, .string ⟨#[]⟩, .slice none 0 0], .bool false]) (by simp [results, Tryz.results52, go_sem]) rfl (HF.out _ (below_step (below_new _ _) (below_new _ _)))
    have k1 := beq_f h1
    by_cases h2 : ck = 2
    · subst h2
      by_cases hz : cs.size = 0
      · have hz1 : cs.toList.isEmpty = true := by rw [List.isEmpty_iff]; exact (toList_nil cs).2 hz
        have hc0 : ¬ ci = 0 := fun e => by subst e; simp [litF, hz] at hL
        have hc1 : ¬ ci = 1 := fun e => by subst e; simp [litF, hz] at hL
        have kc0 := beq_f hc0
        have kc1 := beq_f hc1
        clear hL HW hs hce hz
        go_enter Tryz.func52, Tryz.ntmps52
        go_wp2
        exact bodyPost_ret (v := .tuple #[.agg #[.int .i64 0, .string ⟨#[]⟩, .int .i64 0, .slice none 0 0, .bool false, .int .i64 0, .int .i64 0, .string ⟨#[]⟩, .slice none 0 0], .bool false]) (by simp [results, Tryz.results52, go_sem]) rfl (HF.out _ (below_step (below_new _ _) (below_new _ _)))
      · have hz1 : cs.toList.isEmpty = false := by
          cases h : cs.toList.isEmpty
          · rfl
          · exact absurd ((toList_nil cs).1 (List.isEmpty_iff.1 h)) hz
        clear hL HW hs hce hz
        go_enter Tryz.func52, Tryz.ntmps52
        go_wp2
        exact bodyPost_ret (v := .tuple #[.agg #[.int .i64 0, .string ⟨#[]⟩, .int .i64 0, .slice none 0 0, .bool false, .int .i64 0, .int .i64 0, .string ⟨#[]⟩, .slice none 0 0], .bool false]) (by simp [results, Tryz.results52, go_sem]) rfl (HF.out _ (below_step (below_new _ _) (below_new _ _)))
    have k2 := beq_f h2
    by_cases h3 : ck = 3
    · subst h3
      by_cases h4 : ci = 0
      · subst h4
        have hpt : (decide (cs.size ≤ 2000) && txtB cs) = false := by
          rw [litF_three] at hL
          simpa using hL
        have HPT := Lib.hid (fun W => c_plainText cs W hs)
        rw [hpt] at HPT
        clear hL HW hs hce hpt
        go_enter Tryz.func52, Tryz.ntmps52
        go_wp2_with fail
        refine (HPT.out _).mono ?_
        rintro e w1 ⟨rfl, rfl⟩
        go_wp2
        exact bodyPost_ret (v := .tuple #[.agg #[.int .i64 0, .string ⟨#[]⟩, .int .i64 0, .slice none 0 0, .bool false, .int .i64 0, .int .i64 0, .string ⟨#[]⟩, .slice none 0 0], .bool false]) (by simp [results, Tryz.results52, go_sem]) rfl (HF.out _ (below_step (below_new _ _) (below_new _ _)))
      · have k4 := beq_f h4
        clear hL HW hs hce
        go_enter Tryz.func52, Tryz.ntmps52
        go_wp2
        exact bodyPost_ret (v := .tuple #[.agg #[.int .i64 0, .string ⟨#[]⟩, .int .i64 0, .slice none 0 0, .bool false, .int .i64 0, .int .i64 0, .string ⟨#[]⟩, .slice none 0 0], .bool false]) (by simp [results, Tryz.results52, go_sem]) rfl (HF.out _ (below_step (below_new _ _) (below_new _ _)))
    have k3 := beq_f h3
    clear hL HW hs hce
    go_enter Tryz.func52, Tryz.ntmps52
    go_wp2
    exact bodyPost_ret (v := .tuple #[.agg #[.int .i64 0, .string ⟨#[]⟩, .int .i64 0, .slice none 0 0, .bool false, .int .i64 0, .int .i64 0, .string ⟨#[]⟩, .slice none 0 0], .bool false]) (by simp [results, Tryz.results52, go_sem]) rfl (HF.out _ (below_step (below_new _ _) (below_new _ _)))
  · have HF := Lib.hid (HT.out hL)
    clear HZ HT
    by_cases h0 : ck = 0
    · subst h0
      have hci : ci = 0 ∧ cs.size = 0 := by simpa [litF] using hL
      obtain ⟨rfl, hz⟩ := hci
      have hz1 : cs.toList.isEmpty = true := by rw [List.isEmpty_iff]; exact (toList_nil cs).2 hz
      clear hL hs hce hz
      go_enter Tryz.func52, Tryz.ntmps52
      go_wp2
      generalize hWW : (w.alloc _).alloc _ = W
      obtain ⟨hbw, hsz, hbk, b0, b1, b2, b3⟩ := HW.out W hWW.symm
      clear hWW HW
      refine wp_region_ord (fun W' : World => Below w.heap.size w W' ∧ W'.cell? ⟨w.heap.size, 0, none⟩ = some (.int .i64 (0)) ∧ W'.cell? ⟨w.heap.size, 1, none⟩ = some (.int .i64 (0)) ∧ W'.cell? ⟨w.heap.size, 2, none⟩ = some (.string cs) ∧ W'.cell? ⟨w.heap.size, 3, none⟩ = some (.slice EA 0 ec)) 10 [(0, true), (2, true), (3, true), (4, true), (5, true), (6, true), (7, true), (8, true), (1, false), (9, true)] (by kernel_rfl) (by kernel_rfl) (⟨hbw.drew, b0, b1, b2, b3⟩) (fun hHeld => ?_)
      simp only [pickOps, List.getElem?_cons_succ, List.getElem?_cons_zero, List.drop_succ_cons, List.drop_zero]
      iterate 8 (refine wpOrd_take (v := ?_) (fun _ _ _ h => h) (Or.inl ⟨by rfl, ?_⟩) (by assumption) ?_; rotate_left; (focus (intro w hSw; (try dsimp only at hSw); go_simp; (try with_reducible rfl))); (try simp only [Act.put, List.setIfInBounds_toArray, List.set_cons_zero, List.set_cons_succ]))
      refine wpOrd_do (fun K hK => ?_)
      go_simp
      go_at_call 73
      refine (c_Named22 _ _).mono ?_
      rintro e w2 ⟨rfl, hb2⟩
      have hB2 := below_step (below_drew W) hb2
      have hbk2 := (hB2.block (w.heap.size + 1) hsz).trans hbk
      have hbw2 := below_step hbw hB2
      have d0 := (hB2.cell (p := ⟨w.heap.size, 0, none⟩) (by simp; omega)).trans b0
      have d1 := (hB2.cell (p := ⟨w.heap.size, 1, none⟩) (by simp; omega)).trans b1
      have d2 := (hB2.cell (p := ⟨w.heap.size, 2, none⟩) (by simp; omega)).trans b2
      have d3 := (hB2.cell (p := ⟨w.heap.size, 3, none⟩) (by simp; omega)).trans b3
      clear hb2 hB2
      refine hK.out _ _ (⟨hbw2, d0, d1, d2, d3⟩) (fun hHeld => ?_)
      clear hK K
      (try simp only [Act.put, List.setIfInBounds_toArray, List.set_cons_zero, List.set_cons_succ])
      iterate 1 (refine wpOrd_take (v := ?_) (fun _ _ _ h => h) (Or.inl ⟨by rfl, ?_⟩) (by assumption) ?_; rotate_left; (focus (intro w hSw; (try dsimp only at hSw); go_simp; (try with_reducible rfl))); (try simp only [Act.put, List.setIfInBounds_toArray, List.set_cons_zero, List.set_cons_succ]))
      refine wpOrd_end ?_
      clear b0 b1 b2 b3 d0 d1 d2 d3 hbw hbk
      refine wpList_store_row rfl 82 _ _ rfl (w.heap.size + 1) _ rfl rfl 82 _ hbk2 (by kernel_rfl) rfl (by simp [Value.oneCell']) ?_
      generalize hWF : w2.setRow _ _ = WF
      obtain ⟨hbF, z0, z1, z2, z3, z4, z5, z6, z7, z8⟩ := row9 hbw2 (show w.heap.size ≤ w.heap.size + 1 by omega) hbk2 WF hWF.symm
      clear hWF hbk2 hbw2 hsz
      go_wp2
      exact bodyPost_ret (v := .tuple #[.agg #[.int .i64 2, .string ⟨#[78, 105, 108]⟩, .int .i64 0, .slice none 0 0, .bool true, .int .i64 (0), .int .i64 (0), .string cs, .slice none 0 0], .bool true]) (by simp [results, Tryz.results52, go_sem, z0, z1, z2, z3, z4, z5, z6, z7, z8]; done) rfl (HF.out _ _ hbF)
    by_cases h1 : ck = 1
    · subst h1
      have hz : cs.size = 0 := by simpa [litF] using hL
      have hz1 : cs.toList.isEmpty = true := by rw [List.isEmpty_iff]; exact (toList_nil cs).2 hz
      clear hL hs hce hz h0
      go_enter Tryz.func52, Tryz.ntmps52
      go_wp2
      generalize hWW : (w.alloc _).alloc _ = W
      obtain ⟨hbw, hsz, hbk, b0, b1, b2, b3⟩ := HW.out W hWW.symm
      clear hWW HW
      refine wp_region_ord (fun W' : World => Below w.heap.size w W' ∧ W'.cell? ⟨w.heap.size, 0, none⟩ = some (.int .i64 (1)) ∧ W'.cell? ⟨w.heap.size, 1, none⟩ = some (.int .i64 (ci)) ∧ W'.cell? ⟨w.heap.size, 2, none⟩ = some (.string cs) ∧ W'.cell? ⟨w.heap.size, 3, none⟩ = some (.slice EA 0 ec)) 10 [(0, true), (2, true), (3, true), (4, true), (5, true), (6, true), (7, true), (8, true), (1, false), (9, true)] (by kernel_rfl) (by kernel_rfl) (⟨hbw.drew, b0, b1, b2, b3⟩) (fun hHeld => ?_)
      simp only [pickOps, List.getElem?_cons_succ, List.getElem?_cons_zero, List.drop_succ_cons, List.drop_zero]
      iterate 8 (refine wpOrd_take (v := ?_) (fun _ _ _ h => h) (Or.inl ⟨by rfl, ?_⟩) (by assumption) ?_; rotate_left; (focus (intro w hSw; (try dsimp only at hSw); go_simp; (try with_reducible rfl))); (try simp only [Act.put, List.setIfInBounds_toArray, List.set_cons_zero, List.set_cons_succ]))
      refine wpOrd_do (fun K hK => ?_)
      go_simp
      go_at_call 73
      refine (c_Named22 _ _).mono ?_
      rintro e w2 ⟨rfl, hb2⟩
      have hB2 := below_step (below_drew W) hb2
      have hbk2 := (hB2.block (w.heap.size + 1) hsz).trans hbk
      have hbw2 := below_step hbw hB2
      have d0 := (hB2.cell (p := ⟨w.heap.size, 0, none⟩) (by simp; omega)).trans b0
      have d1 := (hB2.cell (p := ⟨w.heap.size, 1, none⟩) (by simp; omega)).trans b1
      have d2 := (hB2.cell (p := ⟨w.heap.size, 2, none⟩) (by simp; omega)).trans b2
      have d3 := (hB2.cell (p := ⟨w.heap.size, 3, none⟩) (by simp; omega)).trans b3
      clear hb2 hB2
      refine hK.out _ _ (⟨hbw2, d0, d1, d2, d3⟩) (fun hHeld => ?_)
      clear hK K
      (try simp only [Act.put, List.setIfInBounds_toArray, List.set_cons_zero, List.set_cons_succ])
      iterate 1 (refine wpOrd_take (v := ?_) (fun _ _ _ h => h) (Or.inl ⟨by rfl, ?_⟩) (by assumption) ?_; rotate_left; (focus (intro w hSw; (try dsimp only at hSw); go_simp; (try with_reducible rfl))); (try simp only [Act.put, List.setIfInBounds_toArray, List.set_cons_zero, List.set_cons_succ]))
      refine wpOrd_end ?_
      clear b0 b1 b2 b3 d0 d1 d2 d3 hbw hbk
      refine wpList_store_row rfl 82 _ _ rfl (w.heap.size + 1) _ rfl rfl 82 _ hbk2 (by kernel_rfl) rfl (by simp [Value.oneCell']) ?_
      generalize hWF : w2.setRow _ _ = WF
      obtain ⟨hbF, z0, z1, z2, z3, z4, z5, z6, z7, z8⟩ := row9 hbw2 (show w.heap.size ≤ w.heap.size + 1 by omega) hbk2 WF hWF.symm
      clear hWF hbk2 hbw2 hsz
      go_wp2
      exact bodyPost_ret (v := .tuple #[.agg #[.int .i64 2, .string ⟨#[73, 110, 116]⟩, .int .i64 0, .slice none 0 0, .bool true, .int .i64 (1), .int .i64 (ci), .string cs, .slice none 0 0], .bool true]) (by simp [results, Tryz.results52, go_sem, z0, z1, z2, z3, z4, z5, z6, z7, z8]; done) rfl (HF.out _ _ hbF)
    by_cases h2 : ck = 2
    · subst h2
      have hci : cs.size = 0 ∧ (ci = 0 ∨ ci = 1) := by simpa [litF] using hL
      obtain ⟨hz, hc⟩ := hci
      have hz1 : cs.toList.isEmpty = true := by rw [List.isEmpty_iff]; exact (toList_nil cs).2 hz
      clear hL hs hce hz h0 h1
      rcases hc with rfl | rfl
      · go_enter Tryz.func52, Tryz.ntmps52
        go_wp2
        generalize hWW : (w.alloc _).alloc _ = W
        obtain ⟨hbw, hsz, hbk, b0, b1, b2, b3⟩ := HW.out W hWW.symm
        clear hWW HW
        refine wp_region_ord (fun W' : World => Below w.heap.size w W' ∧ W'.cell? ⟨w.heap.size, 0, none⟩ = some (.int .i64 (2)) ∧ W'.cell? ⟨w.heap.size, 1, none⟩ = some (.int .i64 (0)) ∧ W'.cell? ⟨w.heap.size, 2, none⟩ = some (.string cs) ∧ W'.cell? ⟨w.heap.size, 3, none⟩ = some (.slice EA 0 ec)) 10 [(0, true), (2, true), (3, true), (4, true), (5, true), (6, true), (7, true), (8, true), (1, false), (9, true)] (by kernel_rfl) (by kernel_rfl) (⟨hbw.drew, b0, b1, b2, b3⟩) (fun hHeld => ?_)
        simp only [pickOps, List.getElem?_cons_succ, List.getElem?_cons_zero, List.drop_succ_cons, List.drop_zero]
        iterate 8 (refine wpOrd_take (v := ?_) (fun _ _ _ h => h) (Or.inl ⟨by rfl, ?_⟩) (by assumption) ?_; rotate_left; (focus (intro w hSw; (try dsimp only at hSw); go_simp; (try with_reducible rfl))); (try simp only [Act.put, List.setIfInBounds_toArray, List.set_cons_zero, List.set_cons_succ]))
        refine wpOrd_do (fun K hK => ?_)
        go_simp
        go_at_call 73
        refine (c_Named22 _ _).mono ?_
        rintro e w2 ⟨rfl, hb2⟩
        have hB2 := below_step (below_drew W) hb2
        have hbk2 := (hB2.block (w.heap.size + 1) hsz).trans hbk
        have hbw2 := below_step hbw hB2
        have d0 := (hB2.cell (p := ⟨w.heap.size, 0, none⟩) (by simp; omega)).trans b0
        have d1 := (hB2.cell (p := ⟨w.heap.size, 1, none⟩) (by simp; omega)).trans b1
        have d2 := (hB2.cell (p := ⟨w.heap.size, 2, none⟩) (by simp; omega)).trans b2
        have d3 := (hB2.cell (p := ⟨w.heap.size, 3, none⟩) (by simp; omega)).trans b3
        clear hb2 hB2
        refine hK.out _ _ (⟨hbw2, d0, d1, d2, d3⟩) (fun hHeld => ?_)
        clear hK K
        (try simp only [Act.put, List.setIfInBounds_toArray, List.set_cons_zero, List.set_cons_succ])
        iterate 1 (refine wpOrd_take (v := ?_) (fun _ _ _ h => h) (Or.inl ⟨by rfl, ?_⟩) (by assumption) ?_; rotate_left; (focus (intro w hSw; (try dsimp only at hSw); go_simp; (try with_reducible rfl))); (try simp only [Act.put, List.setIfInBounds_toArray, List.set_cons_zero, List.set_cons_succ]))
        refine wpOrd_end ?_
        clear b0 b1 b2 b3 d0 d1 d2 d3 hbw hbk
        refine wpList_store_row rfl 82 _ _ rfl (w.heap.size + 1) _ rfl rfl 82 _ hbk2 (by kernel_rfl) rfl (by simp [Value.oneCell']) ?_
        generalize hWF : w2.setRow _ _ = WF
        obtain ⟨hbF, z0, z1, z2, z3, z4, z5, z6, z7, z8⟩ := row9 hbw2 (show w.heap.size ≤ w.heap.size + 1 by omega) hbk2 WF hWF.symm
        clear hWF hbk2 hbw2 hsz
        go_wp2
        exact bodyPost_ret (v := .tuple #[.agg #[.int .i64 2, .string ⟨#[66, 111, 111, 108]⟩, .int .i64 0, .slice none 0 0, .bool true, .int .i64 (2), .int .i64 (0), .string cs, .slice none 0 0], .bool true]) (by simp [results, Tryz.results52, go_sem, z0, z1, z2, z3, z4, z5, z6, z7, z8]; done) rfl (HF.out _ _ hbF)
      · go_enter Tryz.func52, Tryz.ntmps52
        go_wp2
        generalize hWW : (w.alloc _).alloc _ = W
        obtain ⟨hbw, hsz, hbk, b0, b1, b2, b3⟩ := HW.out W hWW.symm
        clear hWW HW
        refine wp_region_ord (fun W' : World => Below w.heap.size w W' ∧ W'.cell? ⟨w.heap.size, 0, none⟩ = some (.int .i64 (2)) ∧ W'.cell? ⟨w.heap.size, 1, none⟩ = some (.int .i64 (1)) ∧ W'.cell? ⟨w.heap.size, 2, none⟩ = some (.string cs) ∧ W'.cell? ⟨w.heap.size, 3, none⟩ = some (.slice EA 0 ec)) 10 [(0, true), (2, true), (3, true), (4, true), (5, true), (6, true), (7, true), (8, true), (1, false), (9, true)] (by kernel_rfl) (by kernel_rfl) (⟨hbw.drew, b0, b1, b2, b3⟩) (fun hHeld => ?_)
        simp only [pickOps, List.getElem?_cons_succ, List.getElem?_cons_zero, List.drop_succ_cons, List.drop_zero]
        iterate 8 (refine wpOrd_take (v := ?_) (fun _ _ _ h => h) (Or.inl ⟨by rfl, ?_⟩) (by assumption) ?_; rotate_left; (focus (intro w hSw; (try dsimp only at hSw); go_simp; (try with_reducible rfl))); (try simp only [Act.put, List.setIfInBounds_toArray, List.set_cons_zero, List.set_cons_succ]))
        refine wpOrd_do (fun K hK => ?_)
        go_simp
        go_at_call 73
        refine (c_Named22 _ _).mono ?_
        rintro e w2 ⟨rfl, hb2⟩
        have hB2 := below_step (below_drew W) hb2
        have hbk2 := (hB2.block (w.heap.size + 1) hsz).trans hbk
        have hbw2 := below_step hbw hB2
        have d0 := (hB2.cell (p := ⟨w.heap.size, 0, none⟩) (by simp; omega)).trans b0
        have d1 := (hB2.cell (p := ⟨w.heap.size, 1, none⟩) (by simp; omega)).trans b1
        have d2 := (hB2.cell (p := ⟨w.heap.size, 2, none⟩) (by simp; omega)).trans b2
        have d3 := (hB2.cell (p := ⟨w.heap.size, 3, none⟩) (by simp; omega)).trans b3
        clear hb2 hB2
        refine hK.out _ _ (⟨hbw2, d0, d1, d2, d3⟩) (fun hHeld => ?_)
        clear hK K
        (try simp only [Act.put, List.setIfInBounds_toArray, List.set_cons_zero, List.set_cons_succ])
        iterate 1 (refine wpOrd_take (v := ?_) (fun _ _ _ h => h) (Or.inl ⟨by rfl, ?_⟩) (by assumption) ?_; rotate_left; (focus (intro w hSw; (try dsimp only at hSw); go_simp; (try with_reducible rfl))); (try simp only [Act.put, List.setIfInBounds_toArray, List.set_cons_zero, List.set_cons_succ]))
        refine wpOrd_end ?_
        clear b0 b1 b2 b3 d0 d1 d2 d3 hbw hbk
        refine wpList_store_row rfl 82 _ _ rfl (w.heap.size + 1) _ rfl rfl 82 _ hbk2 (by kernel_rfl) rfl (by simp [Value.oneCell']) ?_
        generalize hWF : w2.setRow _ _ = WF
        obtain ⟨hbF, z0, z1, z2, z3, z4, z5, z6, z7, z8⟩ := row9 hbw2 (show w.heap.size ≤ w.heap.size + 1 by omega) hbk2 WF hWF.symm
        clear hWF hbk2 hbw2 hsz
        go_wp2
        exact bodyPost_ret (v := .tuple #[.agg #[.int .i64 2, .string ⟨#[66, 111, 111, 108]⟩, .int .i64 0, .slice none 0 0, .bool true, .int .i64 (2), .int .i64 (1), .string cs, .slice none 0 0], .bool true]) (by simp [results, Tryz.results52, go_sem, z0, z1, z2, z3, z4, z5, z6, z7, z8]; done) rfl (HF.out _ _ hbF)
    by_cases h3 : ck = 3
    · subst h3
      rw [litF_three] at hL
      simp only [Bool.and_eq_true, decide_eq_true_eq] at hL
      obtain ⟨⟨rfl, h4⟩, h5⟩ := hL
      have hpt : (decide (cs.size ≤ 2000) && txtB cs) = true := by simp [h4, h5]
      have HPT := Lib.hid (fun W => c_plainText cs W hs)
      rw [hpt] at HPT
      clear hs hce hpt h0 h1 h2 h4 h5
      go_enter Tryz.func52, Tryz.ntmps52
      go_wp2_with fail
      refine (HPT.out _).mono ?_
      rintro e w1 ⟨rfl, rfl⟩
      go_wp2
      generalize hWW : (w.alloc _).alloc _ = W
      obtain ⟨hbw, hsz, hbk, b0, b1, b2, b3⟩ := HW.out W hWW.symm
      clear hWW HW
      refine wp_region_ord (fun W' : World => Below w.heap.size w W' ∧ W'.cell? ⟨w.heap.size, 0, none⟩ = some (.int .i64 (3)) ∧ W'.cell? ⟨w.heap.size, 1, none⟩ = some (.int .i64 (0)) ∧ W'.cell? ⟨w.heap.size, 2, none⟩ = some (.string cs) ∧ W'.cell? ⟨w.heap.size, 3, none⟩ = some (.slice EA 0 ec)) 10 [(0, true), (2, true), (3, true), (4, true), (5, true), (6, true), (7, true), (8, true), (1, false), (9, true)] (by kernel_rfl) (by kernel_rfl) (⟨hbw.drew, b0, b1, b2, b3⟩) (fun hHeld => ?_)
      simp only [pickOps, List.getElem?_cons_succ, List.getElem?_cons_zero, List.drop_succ_cons, List.drop_zero]
      iterate 8 (refine wpOrd_take (v := ?_) (fun _ _ _ h => h) (Or.inl ⟨by rfl, ?_⟩) (by assumption) ?_; rotate_left; (focus (intro w hSw; (try dsimp only at hSw); go_simp; (try with_reducible rfl))); (try simp only [Act.put, List.setIfInBounds_toArray, List.set_cons_zero, List.set_cons_succ]))
      refine wpOrd_do (fun K hK => ?_)
      go_simp
      go_at_call 73
      refine (c_Named22 _ _).mono ?_
      rintro e w2 ⟨rfl, hb2⟩
      have hB2 := below_step (below_drew W) hb2
      have hbk2 := (hB2.block (w.heap.size + 1) hsz).trans hbk
      have hbw2 := below_step hbw hB2
      have d0 := (hB2.cell (p := ⟨w.heap.size, 0, none⟩) (by simp; omega)).trans b0
      have d1 := (hB2.cell (p := ⟨w.heap.size, 1, none⟩) (by simp; omega)).trans b1
      have d2 := (hB2.cell (p := ⟨w.heap.size, 2, none⟩) (by simp; omega)).trans b2
      have d3 := (hB2.cell (p := ⟨w.heap.size, 3, none⟩) (by simp; omega)).trans b3
      clear hb2 hB2
      refine hK.out _ _ (⟨hbw2, d0, d1, d2, d3⟩) (fun hHeld => ?_)
      clear hK K
      (try simp only [Act.put, List.setIfInBounds_toArray, List.set_cons_zero, List.set_cons_succ])
      iterate 1 (refine wpOrd_take (v := ?_) (fun _ _ _ h => h) (Or.inl ⟨by rfl, ?_⟩) (by assumption) ?_; rotate_left; (focus (intro w hSw; (try dsimp only at hSw); go_simp; (try with_reducible rfl))); (try simp only [Act.put, List.setIfInBounds_toArray, List.set_cons_zero, List.set_cons_succ]))
      refine wpOrd_end ?_
      clear b0 b1 b2 b3 d0 d1 d2 d3 hbw hbk
      refine wpList_store_row rfl 82 _ _ rfl (w.heap.size + 1) _ rfl rfl 82 _ hbk2 (by kernel_rfl) rfl (by simp [Value.oneCell']) ?_
      generalize hWF : w2.setRow _ _ = WF
      obtain ⟨hbF, z0, z1, z2, z3, z4, z5, z6, z7, z8⟩ := row9 hbw2 (show w.heap.size ≤ w.heap.size + 1 by omega) hbk2 WF hWF.symm
      clear hWF hbk2 hbw2 hsz
      go_wp2
      exact bodyPost_ret (v := .tuple #[.agg #[.int .i64 2, .string ⟨#[83, 116, 114, 105, 110, 103]⟩, .int .i64 0, .slice none 0 0, .bool true, .int .i64 (3), .int .i64 (0), .string cs, .slice none 0 0], .bool true]) (by simp [results, Tryz.results52, go_sem, z0, z1, z2, z3, z4, z5, z6, z7, z8]; done) rfl (HF.out _ _ hbF)
    exfalso
    simp [litF, h0, h1, h2, h3] at hL
end Go.Proofs.YtdjldmpfginkdaaGreatDoor
