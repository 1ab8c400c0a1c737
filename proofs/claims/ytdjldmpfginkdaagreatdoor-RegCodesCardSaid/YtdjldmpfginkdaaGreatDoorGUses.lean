/- Contracts of sort.Ints and regcode.Uses.
  A slice of rows while it is filled.
  Rows that stand in an appended slice.
  Contracts of telgen.New, Next, register, Const, Within.
  Contract of telgen.Within. -/
import Derived.Test.YtdjldmpfginkdaaGreatDoorGRegB
import Derived.Test.YtdjldmpfginkdaaGreatDoorFree1
import Derived.Test.YtdjldmpfginkdaaGreatDoorGRegE
import Derived.Test.YtdjldmpfginkdaaGreatDoorShelfP
import Derived.Shelf.SortG.Plain
import Derived.Shelf.SortG.SortNone
import Derived.Sort.OwnSortedInts
import Derived.Test.YtdjldmpfginkdaaGreatDoorGSpin
import Derived.Test.YtdjldmpfginkdaaGreatDoorGRegD
import Derived.Lib.OwnKind
import Derived.BigQuiet
import Derived.Deep.QuietTactic
namespace Go.Proofs.YtdjldmpfginkdaaGreatDoor
open Go.RowKit
attribute [local go_sem ↓] Go.wp_at_zero Go.wp_at_succ

set_option maxHeartbeats 1000000 in
theorem c_sortInts (xs : List Int) (v : Value) (W : World) {base : Nat} (_ : base ≤ W.heap.size) (hown : W.ownsRow base 3 1 v xs.length (ints xs)) (hn : xs.length ≤ 2 ^ 40) :
    Calls Tryz.prog 31 #[v] W fun e w' => e = .returned (.tuple #[]) ∧ w'.ownsRow base 3 1 v xs.length (ints (srt xs)) ∧ W.grownBy w' v.ownBlock := by
  rcases hown.2 with ⟨rfl, h0⟩ | ⟨g, cap, cur, rfl, hg, hh, hnc, hcm, hcs, ht⟩
  · have hx : xs = [] := List.eq_nil_of_length_eq_zero h0
    subst hx
    have HC := Lib.hid (fun w => AnyG.slices_Sort_int_none Tryz.laysSort none 0 w)
    have hown' := Lib.hid hown
    clear hown
    go_enter Tryz.func31, Tryz.ntmps31
    go_wp2_with (first | (go_at_call 58; refine (HC.out _).mono ?_; rintro e w' ⟨rfl, hw⟩; subst hw))
    go_end0
    exact ⟨rfl, by simpa [srt] using hown'.out, ⟨rfl, rfl, rfl, Nat.le_refl _, fun _ _ _ => rfl⟩⟩
  · have hlt : g < W.heap.size := (Array.getElem?_eq_some_iff.1 hh).1
    have HC := Lib.hid (AnyG.slices_Sort_int Tryz.laysSort g 0 cap xs W (Go.holds_of_blockI hh (by simpa [ints] using ht)) hlt (by omega))
    have HO := Lib.hid (fun (n : Nat) (os : Array Obj) => Go.ownsRow_sortedI (n := n) (os := os) (ss := xs) (ts := srt xs) (srt_len xs) hg hh hnc hcm hcs)
    have HG := Lib.hid (fun (n : Nat) (os : Array Obj) => Go.grownBy_sortedI (w := W) (g := g) (n := n) (os := os) (srt xs).toArray)
    clear hown hg hh hnc hcm hcs ht
    go_enter Tryz.func31, Tryz.ntmps31
    go_wp2_with (first | (go_at_call 58; refine HC.out.mono ?_; rintro e w' ⟨rfl, n, os, hw⟩; subst hw))
    go_end0
    exact ⟨rfl, HO.out _ _, HG.out _ _⟩
/-- A new row of its own comes back; nothing old has changed. -/
def RetOwn (xs : List Int) (w : World) (e : Ending) (w' : World) : Prop := ∃ v, e = .returned v ∧ w'.ownsRow w.heap.size 3 1 v xs.length (ints xs) ∧ Below w.heap.size w w'
theorem own_base {w : World} {b b' n : Nat} {v : Value} {xs : List Value} (h : w.ownsRow b 3 1 v n xs) (hb : b' ≤ b) : w.ownsRow b' 3 1 v n xs := by
  refine ⟨h.1, ?_⟩
  rcases h.2 with h1 | ⟨g, cap, cur, hv, hg, r⟩
  · exact .inl h1
  · exact .inr ⟨g, cap, cur, hv, Nat.le_trans hb hg, r⟩
/-- A row that is read while another one grows. -/
def Vals (A : Option Addr) (L : Nat) (ys : List Int) (W : World) : Prop := ys.length = 0 ∨ ∃ g, A = some ⟨g, 0, none⟩ ∧ g < L ∧ g < W.heap.size ∧ ∀ (j : Nat) (hj : j < ys.length), W.cell? ⟨g, j, none⟩ = some (.int .i64 ys[j])
theorem Vals.of {W : World} {base c : Nat} {A : Option Addr} {ys : List Int} (h : W.ownsRow base 3 1 (.slice A ys.length c) ys.length (ints ys)) : Vals A W.heap.size ys W := by
  rcases h.2 with ⟨_, h0⟩ | ⟨g, cap, cur, hv, hg, hh, r⟩
  · exact .inl h0
  · simp only [Value.slice.injEq] at hv
    obtain ⟨rfl, _, rfl⟩ := hv
    refine .inr ⟨g, rfl, (Array.getElem?_eq_some_iff.1 hh).1, (Array.getElem?_eq_some_iff.1 hh).1, fun j hj => ?_⟩
    rw [h.cellAt j (by simpa [ints] using hj)]
    simp [ints, hj]
theorem Vals.keep {W W' : World} {A : Option Addr} {L : Nat} {ys : List Int} (h : Vals A L ys W) (hk : ∀ b, b < L → b < W.heap.size → W'.heap[b]? = W.heap[b]?) : Vals A L ys W' := by
  rcases h with h | ⟨g, hA, hg, hg2, hc⟩
  · exact .inl h
  · have hb := hk g hg hg2
    refine .inr ⟨g, hA, hg, ?_, fun j hj => (World.cell?_of_block (a := ⟨g, j, none⟩) hb).trans (hc j hj)⟩
    rw [Array.getElem?_eq_getElem hg2] at hb
    exact (Array.getElem?_eq_some_iff.1 hb).1
theorem Vals.below {W W' : World} {A : Option Addr} {L : Nat} {ys : List Int} (h : Vals A L ys W) (hb : Below W.heap.size W W') : Vals A L ys W' := h.keep fun b _ h2 => hb.block b h2
theorem own_form {W : World} {base n : Nat} {v : Value} {xs : List Value} (h : W.ownsRow base 3 1 v n xs) : ∃ A c, v = .slice A n c := by
  rcases h.2 with ⟨rfl, rfl⟩ | ⟨g, cap, cur, rfl, _⟩
  · exact ⟨_, _, rfl⟩
  · exact ⟨_, _, rfl⟩

theorem keep_none {W W' : World} (h : W.grownBy W' none) : Below W.heap.size W W' := ⟨h.os, h.tape, h.output, h.size, fun k hk => h.block k hk (by simp)⟩
set_option maxRecDepth 100000 in
set_option maxHeartbeats 8000000 in
theorem c_Uses (x : Ins) (A : Option Addr) (c : Nat) (TA : Option Addr) (tc : Nat) (EA : Option Addr) (ec : Nat) (w : World) (B G : Nat)
    (hx : IsInts w B x.args (.slice A x.args.length c)) (hB : B ≤ w.heap.size) (hla : x.args.length ≤ 2 ^ 39) (hE : EnvS w G) (hG : G ≤ w.heap.size) :
    Calls Tryz.prog 14 #[.agg #[.int .i64 x.op, .int .i64 x.dst, .int .i64 x.a, .int .i64 x.b, .int .i64 x.imm, .string x.name, .slice A x.args.length c, .int .i64 x.ty.kind, .string x.ty.name, .int .i64 x.ty.index, .slice TA x.ty.args.length tc, .int .i64 x.ck, .int .i64 x.ci, .string x.cs, .slice EA x.ce ec]] w (RetOwn x.uses w) := by
  have HS := Lib.hid (fun (W : World) (hW : Below w.heap.size w W) => c_shapeOf x.op x.imm (.int .i64 x.dst) (.int .i64 x.a) (.int .i64 x.b) (.string x.name) (.slice A x.args.length c) (.int .i64 x.ty.kind) (.string x.ty.name) (.int .i64 x.ty.index) (.slice TA x.ty.args.length tc) (.int .i64 x.ck) (.int .i64 x.ci) (.string x.cs) (.slice EA x.ce ec) W G (hE.below hW hG) (Nat.le_trans hG hW.size))
  unfold ShpR at HS
  have HX := Lib.hid hx
  have HRL := Lib.hid (Nat.le_trans (regs_len x) (by omega : 2 + x.args.length ≤ 2 ^ 40))
  have HW : Hid (∀ w1 W2 W : World, Below (w.alloc (.cells #[.int .i64 x.op, .int .i64 x.dst, .int .i64 x.a, .int .i64 x.b, .int .i64 x.imm, .string x.name, .slice A x.args.length c, .int .i64 x.ty.kind, .string x.ty.name, .int .i64 x.ty.index, .slice TA x.ty.args.length tc, .int .i64 x.ck, .int .i64 x.ci, .string x.cs, .slice EA x.ce ec] 38)).heap.size (w.alloc (.cells #[.int .i64 x.op, .int .i64 x.dst, .int .i64 x.a, .int .i64 x.b, .int .i64 x.imm, .string x.name, .slice A x.args.length c, .int .i64 x.ty.kind, .string x.ty.name, .int .i64 x.ty.index, .slice TA x.ty.args.length tc, .int .i64 x.ck, .int .i64 x.ci, .string x.cs, .slice EA x.ce ec] 38)) w1 →
      W2 = w1.alloc (.cells #[.bool (oD x.op), .bool (oA x.op), .bool (oB x.op x.imm), .bool (oI x.op), .bool (oN x.op), .bool (oL x.op), .bool (oT x.op), .bool (oC x.op)] 65) → Below W2.heap.size W2 W →
      (W.cell? ⟨w.heap.size, 2, none⟩ = some (.int .i64 x.a) ∧ W.cell? ⟨w.heap.size, 3, none⟩ = some (.int .i64 x.b) ∧ W.cell? ⟨w.heap.size, 6, none⟩ = some (.slice A x.args.length c)) ∧
      (W.cell? ⟨w1.heap.size, 1, none⟩ = some (.bool (oA x.op)) ∧ W.cell? ⟨w1.heap.size, 2, none⟩ = some (.bool (oB x.op x.imm)) ∧ W.cell? ⟨w1.heap.size, 5, none⟩ = some (.bool (oL x.op))) ∧ Below w.heap.size w W ∧ w.heap.size < w1.heap.size ∧ w1.heap.size + 1 ≤ W.heap.size) := Lib.hid (fun w1 W2 W hb1 hW2 hb => by
    subst hW2
    have hs1 := hb1.size
    have hs := hb.size
    simp at hs1 hs
    have hbw := below_step (below_step (below_step (below_new w (.cells #[.int .i64 x.op, .int .i64 x.dst, .int .i64 x.a, .int .i64 x.b, .int .i64 x.imm, .string x.name, .slice A x.args.length c, .int .i64 x.ty.kind, .string x.ty.name, .int .i64 x.ty.index, .slice TA x.ty.args.length tc, .int .i64 x.ck, .int .i64 x.ci, .string x.cs, .slice EA x.ce ec] 38)) hb1) (below_new _ _)) hb
    have hc : ∀ i, W.cell? ⟨w.heap.size, i, none⟩ = (w.alloc (.cells #[.int .i64 x.op, .int .i64 x.dst, .int .i64 x.a, .int .i64 x.b, .int .i64 x.imm, .string x.name, .slice A x.args.length c, .int .i64 x.ty.kind, .string x.ty.name, .int .i64 x.ty.index, .slice TA x.ty.args.length tc, .int .i64 x.ck, .int .i64 x.ci, .string x.cs, .slice EA x.ce ec] 38)).cell? ⟨w.heap.size, i, none⟩ := fun i =>
      (hb.cell (p := ⟨w.heap.size, i, none⟩) (by simp; omega)).trans (((below_new w1 _).cell (p := ⟨w.heap.size, i, none⟩) (by simp; omega)).trans (hb1.cell (p := ⟨w.heap.size, i, none⟩) (by simp)))
    have hd : ∀ i, W.cell? ⟨w1.heap.size, i, none⟩ = (w1.alloc (.cells #[.bool (oD x.op), .bool (oA x.op), .bool (oB x.op x.imm), .bool (oI x.op), .bool (oN x.op), .bool (oL x.op), .bool (oT x.op), .bool (oC x.op)] 65)).cell? ⟨w1.heap.size, i, none⟩ := fun i => hb.cell (p := ⟨w1.heap.size, i, none⟩) (by simp)
    refine ⟨⟨(hc _).trans ?_, (hc _).trans ?_, (hc _).trans ?_⟩, ⟨(hd _).trans ?_, (hd _).trans ?_, (hd _).trans ?_⟩, hbw, by omega, by omega⟩
    · rw [cell_of_row _ w.heap.size _ _ _ _ (blk_new _ _)]; rfl
    · rw [cell_of_row _ w.heap.size _ _ _ _ (blk_new _ _)]; rfl
    · rw [cell_of_row _ w.heap.size _ _ _ _ (blk_new _ _)]; rfl
    · rw [cell_of_row _ w1.heap.size _ _ _ _ (blk_new _ _)]; rfl
    · rw [cell_of_row _ w1.heap.size _ _ _ _ (blk_new _ _)]; rfl
    · rw [cell_of_row _ w1.heap.size _ _ _ _ (blk_new _ _)]; rfl)
  obtain ⟨i0, hi0, hz0, hz1, hz2⟩ := info_parts info_int
  have HI : Hid (i0.zero = some (.int .i64 0) ∧ i0.size = 1 ∧ i0.bytes = 8) := Lib.hid ⟨hz0, hz1, hz2⟩
  have Hi0 := Lib.hid hi0
  clear hx hE hi0 hz0 hz1 hz2
  have HR : Hid (x.regs = (if oA x.op = true then [x.a] else []) ++ ((if oB x.op x.imm = true then [x.b] else []) ++ (if oL x.op = true then x.args else []))) := Lib.hid rfl
  have habl := abl x.op x.imm
  generalize oD x.op = x0, oA x.op = x1, oB x.op x.imm = x2, oI x.op = x3, oN x.op = x4, oL x.op = x5, oT x.op = x6, oC x.op = x7, decide (1 ≤ x.op ∧ x.op ≤ 27) = x8 at *
  rcases habl with ⟨rfl, rfl, rfl⟩ | ⟨rfl, rfl, rfl⟩ | ⟨rfl, rfl, rfl⟩ | ⟨rfl, rfl, rfl⟩
  · have hr : x.regs = [] := by rw [HR.out]; simp
    go_enter Tryz.func14, Tryz.ntmps14
    go_wp2_with fail
    refine (HS.out _ (below_new _ _)).mono ?_
    rintro e w1 ⟨rfl, hb1⟩
    have HSH := Lib.hid (fun (W2 W : World) => HW.out w1 W2 W hb1)
    have d2 : w1.cell? ⟨w.heap.size, 2, none⟩ = some (.int .i64 x.a) := (hb1.cell (p := ⟨w.heap.size, 2, none⟩) (by simp)).trans (by rw [cell_of_row _ w.heap.size _ _ _ _ (blk_new _ _)]; rfl)
    have d3 : w1.cell? ⟨w.heap.size, 3, none⟩ = some (.int .i64 x.b) := (hb1.cell (p := ⟨w.heap.size, 3, none⟩) (by simp)).trans (by rw [cell_of_row _ w.heap.size _ _ _ _ (blk_new _ _)]; rfl)
    have d6 : w1.cell? ⟨w.heap.size, 6, none⟩ = some (.slice A x.args.length c) := (hb1.cell (p := ⟨w.heap.size, 6, none⟩) (by simp)).trans (by rw [cell_of_row _ w.heap.size _ _ _ _ (blk_new _ _)]; rfl)
    have hlt0 : w.heap.size < w1.heap.size := (HSH.out _ _ rfl (Below.refl _ _)).2.2.2.1
    clear HS HW hb1
    go_wp2_with fail
    generalize hW2 : w1.alloc _ = w2
    obtain ⟨_, _, hbw2, _, _⟩ := HSH.out w2 w2 hW2.symm (Below.refl _ _)
    clear hW2 HSH
    have w2s : w.heap.size ≤ w2.heap.size := hbw2.size
    have HB := Lib.hid hbw2
    have HOWN : Hid (w2.ownsRow w.heap.size 3 1 (.slice none 0 0) x.regs.length (ints x.regs)) := Lib.hid (by rw [hr]; exact World.ownsRow_nil _ _ _ _)
    have hu : x.uses = [] := by unfold Ins.uses; rw [hr]; rfl
    refine (c_sortInts x.regs (.slice none 0 0) _ w2s HOWN.out HRL.out).mono ?_
    rintro e W1 ⟨rfl, _, hg1⟩
    have HB1 := Lib.hid (HB.out.grown hg1 w2s (fun k h => own_ge HOWN.out k h))
    clear hg1 HB HOWN hbw2
    go_wp2
    go_loopw [6, 38] (fun ov s wr => s = .int .i64 0 ∧ ov = .slice none 0 0 ∧ Hid (Below w.heap.size w wr)) (fun _ _ _ => 0)
    case atStart => exact ⟨rfl, rfl, HB1⟩
    case round =>
      obtain ⟨rfl, rfl, HB⟩ := hrel
      go_wp2
      go_ret
      exact ⟨_, rfl, by rw [hu]; exact World.ownsRow_nil _ _ _ _, HB.out⟩
  · have hr : x.regs = [x.a] := by rw [HR.out]; simp
    go_enter Tryz.func14, Tryz.ntmps14
    go_wp2_with fail
    refine (HS.out _ (below_new _ _)).mono ?_
    rintro e w1 ⟨rfl, hb1⟩
    have HSH := Lib.hid (fun (W2 W : World) => HW.out w1 W2 W hb1)
    have d2 : w1.cell? ⟨w.heap.size, 2, none⟩ = some (.int .i64 x.a) := (hb1.cell (p := ⟨w.heap.size, 2, none⟩) (by simp)).trans (by rw [cell_of_row _ w.heap.size _ _ _ _ (blk_new _ _)]; rfl)
    have d3 : w1.cell? ⟨w.heap.size, 3, none⟩ = some (.int .i64 x.b) := (hb1.cell (p := ⟨w.heap.size, 3, none⟩) (by simp)).trans (by rw [cell_of_row _ w.heap.size _ _ _ _ (blk_new _ _)]; rfl)
    have d6 : w1.cell? ⟨w.heap.size, 6, none⟩ = some (.slice A x.args.length c) := (hb1.cell (p := ⟨w.heap.size, 6, none⟩) (by simp)).trans (by rw [cell_of_row _ w.heap.size _ _ _ _ (blk_new _ _)]; rfl)
    have hlt0 : w.heap.size < w1.heap.size := (HSH.out _ _ rfl (Below.refl _ _)).2.2.2.1
    clear HS HW hb1
    go_wp2_with (first
      | (at_builtin; refine wpList_append_rd _ rfl (.tmp 16) (.tmp 19) 22 rfl w.heap.size 3 i0 (.int .i64 0) 1 8 Tryz.underlying22 Hi0.out HI.out.1 HI.out.2.1 HI.out.2.2 rfl (by omega) (.slice none 0 0) 0 [] rfl (World.ownsRow_nil _ _ _ _) (w1.heap.size + 2) (some ⟨w1.heap.size + 1, 0, none⟩) 1 1 [.int .i64 x.a] rfl (Rd.blk (cs := #[.int .i64 x.a]) (blk_new2 _ _ _) rfl (by omega)) (by simp [Value.oneCell']) (by omega) (by simp; omega) ?_
         intro v5 w5 hown5 hg5 hat5
         obtain ⟨⟨_, c3, c6⟩, ⟨_, s2, s5⟩, hbw5, _, _⟩ := HSH.out _ w5 rfl (below_step (below_new _ _) (keep_none hg5))
         have HOWN : Hid (w5.ownsRow w.heap.size 3 1 v5 x.regs.length (ints x.regs)) := Lib.hid (by rw [hr]; simpa [ints] using hown5)
         clear hown5 hg5 hat5 HSH))
    have w2s : w.heap.size ≤ w5.heap.size := hbw5.size
    have HB := Lib.hid hbw5
    refine (c_sortInts x.regs v5 _ w2s HOWN.out HRL.out).mono ?_
    rintro e W1 ⟨rfl, hown1, hg1⟩
    have HB1 := Lib.hid (HB.out.grown hg1 w2s (fun k h => own_ge HOWN.out k h))
    obtain ⟨A1, c1, rfl⟩ := own_form hown1
    have HV1 : Hid (Vals A1 W1.heap.size (srt x.regs) W1) := Lib.hid (Vals.of (by rw [srt_len]; exact hown1))
    clear HB HOWN hown1 hg1 HR
    generalize hn : x.regs.length = n at *
    have HN : Hid ((srt x.regs).length = n) := Lib.hid ((srt_len _).trans hn)
    have HU : Hid (x.uses = insAll [] (srt x.regs)) := Lib.hid (insAll_srt x.regs).symm
    have HSL := Lib.hid (srt_le x.regs)
    clear hn
    generalize srt x.regs = ys at *
    generalize x.uses = us at *
    have hn40 := HRL.out
    have hbz := HB1.out
    generalize hL : W1.heap.size = L at HV1
    have hL0 : w.heap.size ≤ L := by rw [← hL]; exact hbz.size
    have hL1 : L ≤ W1.heap.size := Nat.le_of_eq hL.symm
    clear hL
    go_wp2
    obtain ⟨W0, rfl⟩ : ∃ W0 : World, W0 = W1 := ⟨_, rfl⟩
    go_loopw [6, 38] (fun ov s wr => ∃ k : Nat, k ≤ n ∧ s = .int .i64 k ∧ Hid (wr.ownsRow L 3 1 ov (insAll [] (ys.take k)).length (ints (insAll [] (ys.take k)))) ∧ Hid (Vals A1 L ys wr) ∧ Below w.heap.size w wr ∧ L ≤ wr.heap.size) (fun _ s _ => n - (intOf s).toNat)
    case atStart => exact ⟨0, by omega, rfl, Lib.hid (World.ownsRow_nil _ _ _ _), HV1, hbz, hL1⟩
    case round =>
      clear HV1 hbz hL1 HB1
      obtain ⟨k, hk, rfl, HOWN, HV, hbz, hL1⟩ := hrel
      by_cases hkn : k < n
      · have hky : k < ys.length := by rw [HN.out]; exact hkn
        rcases HV.out with h0 | ⟨g, rfl, hg, hg2, hc⟩
        · omega
        have hk0 : (0 : Int) ≤ (k : Int) := by omega
        have hk1 : (k : Int) < (n : Int) := by omega
        have hck := hc k hky
        have hol := (insAll_len [] (ys.take k)).2
        have htk : (ys.take k).length ≤ k := by simp; omega
        simp only [List.length_nil, Nat.zero_add] at hol
        have HNEW := Lib.hid (dd_new HSL.out hky)
        cases k with
        | zero =>
          have HD := Lib.hid (HNEW.out (.inl rfl))
          have HO := Lib.hid HOWN.out
          have HOL := Lib.hid hol
          generalize ys[0] = y at *
          generalize insAll [] (ys.take (0)) = ol at *
          have hol2 : ol.length ≤ n := by omega
          clear HNEW hol htk hc
          go_wp2_with (first
            | (at_builtin; refine wpList_append_rd _ rfl (.tmp 54) (.tmp 56) 22 rfl L 3 i0 (.int .i64 0) 1 8 Tryz.underlying22 Hi0.out HI.out.1 HI.out.2.1 HI.out.2.2 rfl (by omega) _ ol.length (ints ol) rfl (HO.out.alloc _) (wr.heap.size + 1) (some ⟨wr.heap.size, 0, none⟩) 1 1 [.int .i64 y] rfl (Rd.blk (cs := #[.int .i64 y]) (blk_new _ _) rfl (by omega)) (by simp [Value.oneCell']) (by omega) (by simp; omega) ?_
               intro v5 w5 hown5 hg5 hat5
               have hbz5 := (below_step hbz (below_new wr (.cells #[.int .i64 y] 3))).grown hg5 (by simp; omega) (fun k e => Nat.le_trans hL0 (own_ge HO.out k e))
               have HV5 := Lib.hid ((HV.out.below (below_new wr (.cells #[.int .i64 y] 3))).keep (fun b h1 h2 => hg5.block b h2 (fun e => by have := own_ge HO.out b e.symm; omega)))
               have hL5 : L ≤ w5.heap.size := Nat.le_trans hL1 (Nat.le_trans (by simp) hg5.size)
               have HOWN5 := Lib.hid hown5
               clear hown5 hg5 hat5))
          go_roundw
          case rel => exact ⟨0 + 1, by omega, by go_num, by rw [HD.out]; exact Lib.hid (by simpa [ints] using HOWN5.out), HV5, hbz5, hL5⟩
          case measure => simp [intOf]; omega
        | succ q =>
          have hcq := hc q (by omega)
          have hqs : IntKind.i64.wrap (((q + 1 : Nat) : Int) - 1) = (q : Int) := by rw [IntWalk.i64_in _ (by omega)]; omega
          have hqn : (q : Int) < (n : Int) := by omega
          by_cases heq : ys[q + 1] = ys[q]
          · have HD := Lib.hid (dd_old hky heq)
            rw [heq] at hck
            clear hc HNEW heq hol htk
            generalize ys[q] = yq at *
            go_wp2
            go_roundw
            case rel => exact ⟨q + 1 + 1, by omega, by go_num, by rw [HD.out]; exact HOWN, HV, hbz, hL1⟩
            case measure => simp [intOf]; omega
          · have HD := Lib.hid (HNEW.out (.inr ⟨by omega, heq⟩))
            have kq := beq_f heq
            have kn : (ys[q + 1] != ys[q]) = true := by simp [heq]
            clear heq
            generalize ys[q] = yq at *
            have HO := Lib.hid HOWN.out
            have HOL := Lib.hid hol
            generalize ys[(q + 1)] = y at *
            generalize insAll [] (ys.take ((q + 1))) = ol at *
            have hol2 : ol.length ≤ n := by omega
            clear HNEW hol htk hc
            go_wp2_with (first
              | (at_builtin; refine wpList_append_rd _ rfl (.tmp 54) (.tmp 56) 22 rfl L 3 i0 (.int .i64 0) 1 8 Tryz.underlying22 Hi0.out HI.out.1 HI.out.2.1 HI.out.2.2 rfl (by omega) _ ol.length (ints ol) rfl (HO.out.alloc _) (wr.heap.size + 1) (some ⟨wr.heap.size, 0, none⟩) 1 1 [.int .i64 y] rfl (Rd.blk (cs := #[.int .i64 y]) (blk_new _ _) rfl (by omega)) (by simp [Value.oneCell']) (by omega) (by simp; omega) ?_
                 intro v5 w5 hown5 hg5 hat5
                 have hbz5 := (below_step hbz (below_new wr (.cells #[.int .i64 y] 3))).grown hg5 (by simp; omega) (fun k e => Nat.le_trans hL0 (own_ge HO.out k e))
                 have HV5 := Lib.hid ((HV.out.below (below_new wr (.cells #[.int .i64 y] 3))).keep (fun b h1 h2 => hg5.block b h2 (fun e => by have := own_ge HO.out b e.symm; omega)))
                 have hL5 : L ≤ w5.heap.size := Nat.le_trans hL1 (Nat.le_trans (by simp) hg5.size)
                 have HOWN5 := Lib.hid hown5
                 clear hown5 hg5 hat5))
            go_roundw
            case rel => exact ⟨(q + 1) + 1, by omega, by go_num, by rw [HD.out]; exact Lib.hid (by simpa [ints] using HOWN5.out), HV5, hbz5, hL5⟩
            case measure => simp [intOf]; omega
      · obtain rfl : n = k := by omega
        have HO : Hid (wr.ownsRow L 3 1 u6 us.length (ints us)) := Lib.hid (by
          have h := HOWN.out
          rw [List.take_of_length_le (by rw [HN.out]; omega), ← HU.out] at h
          exact h)
        clear HOWN HV HSL HN HU
        go_wp2
        go_ret
        exact ⟨_, rfl, own_base HO.out hL0, hbz⟩
  · have hr : x.regs = [x.a, x.b] := by rw [HR.out]; simp
    go_enter Tryz.func14, Tryz.ntmps14
    go_wp2_with fail
    refine (HS.out _ (below_new _ _)).mono ?_
    rintro e w1 ⟨rfl, hb1⟩
    have HSH := Lib.hid (fun (W2 W : World) => HW.out w1 W2 W hb1)
    have d2 : w1.cell? ⟨w.heap.size, 2, none⟩ = some (.int .i64 x.a) := (hb1.cell (p := ⟨w.heap.size, 2, none⟩) (by simp)).trans (by rw [cell_of_row _ w.heap.size _ _ _ _ (blk_new _ _)]; rfl)
    have d3 : w1.cell? ⟨w.heap.size, 3, none⟩ = some (.int .i64 x.b) := (hb1.cell (p := ⟨w.heap.size, 3, none⟩) (by simp)).trans (by rw [cell_of_row _ w.heap.size _ _ _ _ (blk_new _ _)]; rfl)
    have d6 : w1.cell? ⟨w.heap.size, 6, none⟩ = some (.slice A x.args.length c) := (hb1.cell (p := ⟨w.heap.size, 6, none⟩) (by simp)).trans (by rw [cell_of_row _ w.heap.size _ _ _ _ (blk_new _ _)]; rfl)
    have hlt0 : w.heap.size < w1.heap.size := (HSH.out _ _ rfl (Below.refl _ _)).2.2.2.1
    clear HS HW hb1
    go_wp2_with (first
      | (at_builtin; refine wpList_append_rd _ rfl (.tmp 16) (.tmp 19) 22 rfl w.heap.size 3 i0 (.int .i64 0) 1 8 Tryz.underlying22 Hi0.out HI.out.1 HI.out.2.1 HI.out.2.2 rfl (by omega) (.slice none 0 0) 0 [] rfl (World.ownsRow_nil _ _ _ _) (w1.heap.size + 2) (some ⟨w1.heap.size + 1, 0, none⟩) 1 1 [.int .i64 x.a] rfl (Rd.blk (cs := #[.int .i64 x.a]) (blk_new2 _ _ _) rfl (by omega)) (by simp [Value.oneCell']) (by omega) (by simp; omega) ?_
         intro v5 w5 hown5 hg5 hat5
         have hb5 := below_step (below_new (w1.alloc (.cells #[.bool x0, .bool true, .bool true, .bool x3, .bool x4, .bool false, .bool x6, .bool x7] 65)) (.cells #[.int .i64 x.a] 3)) (keep_none hg5)
         obtain ⟨⟨_, c3, _⟩, ⟨_, s2, _⟩, hbw5, _, hs5⟩ := HSH.out _ w5 rfl hb5
         have HB5 := Lib.hid hb5
         have HOW5 := Lib.hid hown5
         have HAT5 : Hid (∀ k, v5.ownBlock = some k → w1.heap.size + 1 ≤ k) := Lib.hid (fun k hk => by
           rcases hat5 with h | h
           · rw [hk] at h; cases h
           · rw [hk] at h; cases h; simp)
         have hbs5 := hbw5.size
         clear hown5 hg5 hat5 hb5 hbw5)
      | (at_builtin; refine wpList_append_rd _ rfl (.tmp 23) (.tmp 26) 22 rfl w.heap.size 3 i0 (.int .i64 0) 1 8 Tryz.underlying22 Hi0.out HI.out.1 HI.out.2.1 HI.out.2.2 rfl (by omega) v5 1 [.int .i64 x.a] rfl (HOW5.out.alloc _) (w5.heap.size + 1) (some ⟨w5.heap.size, 0, none⟩) 1 1 [.int .i64 x.b] rfl (Rd.blk (cs := #[.int .i64 x.b]) (blk_new _ _) rfl (by omega)) (by simp [Value.oneCell']) (by omega) (by simp; omega) ?_
         intro v6 w6 hown6 hg6 hat6
         have hb6 := (below_step HB5.out (below_new w5 (.cells #[.int .i64 x.b] 3))).grown hg6 (by simp; omega) (fun k e => by have := HAT5.out k e; simp; omega)
         obtain ⟨_, ⟨_, _, s5⟩, hbw6, _, _⟩ := HSH.out _ w6 rfl hb6
         have HOWN : Hid (w6.ownsRow w.heap.size 3 1 v6 x.regs.length (ints x.regs)) := Lib.hid (by rw [hr]; simpa [ints] using hown6)
         clear hown6 hg6 hat6 hb6 HSH HB5 HOW5 HAT5))
    have w2s : w.heap.size ≤ w6.heap.size := hbw6.size
    have HB := Lib.hid hbw6
    clear hbw6
    refine (c_sortInts x.regs v6 _ w2s HOWN.out HRL.out).mono ?_
    rintro e W1 ⟨rfl, hown1, hg1⟩
    have HB1 := Lib.hid (HB.out.grown hg1 w2s (fun k h => own_ge HOWN.out k h))
    obtain ⟨A1, c1, rfl⟩ := own_form hown1
    have HV1 : Hid (Vals A1 W1.heap.size (srt x.regs) W1) := Lib.hid (Vals.of (by rw [srt_len]; exact hown1))
    clear HB HOWN hown1 hg1 HR
    generalize hn : x.regs.length = n at *
    have HN : Hid ((srt x.regs).length = n) := Lib.hid ((srt_len _).trans hn)
    have HU : Hid (x.uses = insAll [] (srt x.regs)) := Lib.hid (insAll_srt x.regs).symm
    have HSL := Lib.hid (srt_le x.regs)
    clear hn
    generalize srt x.regs = ys at *
    generalize x.uses = us at *
    have hn40 := HRL.out
    have hbz := HB1.out
    generalize hL : W1.heap.size = L at HV1
    have hL0 : w.heap.size ≤ L := by rw [← hL]; exact hbz.size
    have hL1 : L ≤ W1.heap.size := Nat.le_of_eq hL.symm
    clear hL
    go_wp2
    obtain ⟨W0, rfl⟩ : ∃ W0 : World, W0 = W1 := ⟨_, rfl⟩
    go_loopw [6, 38] (fun ov s wr => ∃ k : Nat, k ≤ n ∧ s = .int .i64 k ∧ Hid (wr.ownsRow L 3 1 ov (insAll [] (ys.take k)).length (ints (insAll [] (ys.take k)))) ∧ Hid (Vals A1 L ys wr) ∧ Below w.heap.size w wr ∧ L ≤ wr.heap.size) (fun _ s _ => n - (intOf s).toNat)
    case atStart => exact ⟨0, by omega, rfl, Lib.hid (World.ownsRow_nil _ _ _ _), HV1, hbz, hL1⟩
    case round =>
      clear HV1 hbz hL1 HB1
      obtain ⟨k, hk, rfl, HOWN, HV, hbz, hL1⟩ := hrel
      by_cases hkn : k < n
      · have hky : k < ys.length := by rw [HN.out]; exact hkn
        rcases HV.out with h0 | ⟨g, rfl, hg, hg2, hc⟩
        · omega
        have hk0 : (0 : Int) ≤ (k : Int) := by omega
        have hk1 : (k : Int) < (n : Int) := by omega
        have hck := hc k hky
        have hol := (insAll_len [] (ys.take k)).2
        have htk : (ys.take k).length ≤ k := by simp; omega
        simp only [List.length_nil, Nat.zero_add] at hol
        have HNEW := Lib.hid (dd_new HSL.out hky)
        cases k with
        | zero =>
          have HD := Lib.hid (HNEW.out (.inl rfl))
          have HO := Lib.hid HOWN.out
          have HOL := Lib.hid hol
          generalize ys[0] = y at *
          generalize insAll [] (ys.take (0)) = ol at *
          have hol2 : ol.length ≤ n := by omega
          clear HNEW hol htk hc
          go_wp2_with (first
            | (at_builtin; refine wpList_append_rd _ rfl (.tmp 54) (.tmp 56) 22 rfl L 3 i0 (.int .i64 0) 1 8 Tryz.underlying22 Hi0.out HI.out.1 HI.out.2.1 HI.out.2.2 rfl (by omega) _ ol.length (ints ol) rfl (HO.out.alloc _) (wr.heap.size + 1) (some ⟨wr.heap.size, 0, none⟩) 1 1 [.int .i64 y] rfl (Rd.blk (cs := #[.int .i64 y]) (blk_new _ _) rfl (by omega)) (by simp [Value.oneCell']) (by omega) (by simp; omega) ?_
               intro v5 w5 hown5 hg5 hat5
               have hbz5 := (below_step hbz (below_new wr (.cells #[.int .i64 y] 3))).grown hg5 (by simp; omega) (fun k e => Nat.le_trans hL0 (own_ge HO.out k e))
               have HV5 := Lib.hid ((HV.out.below (below_new wr (.cells #[.int .i64 y] 3))).keep (fun b h1 h2 => hg5.block b h2 (fun e => by have := own_ge HO.out b e.symm; omega)))
               have hL5 : L ≤ w5.heap.size := Nat.le_trans hL1 (Nat.le_trans (by simp) hg5.size)
               have HOWN5 := Lib.hid hown5
               clear hown5 hg5 hat5))
          go_roundw
          case rel => exact ⟨0 + 1, by omega, by go_num, by rw [HD.out]; exact Lib.hid (by simpa [ints] using HOWN5.out), HV5, hbz5, hL5⟩
          case measure => simp [intOf]; omega
        | succ q =>
          have hcq := hc q (by omega)
          have hqs : IntKind.i64.wrap (((q + 1 : Nat) : Int) - 1) = (q : Int) := by rw [IntWalk.i64_in _ (by omega)]; omega
          have hqn : (q : Int) < (n : Int) := by omega
          by_cases heq : ys[q + 1] = ys[q]
          · have HD := Lib.hid (dd_old hky heq)
            rw [heq] at hck
            clear hc HNEW heq hol htk
            generalize ys[q] = yq at *
            go_wp2
            go_roundw
            case rel => exact ⟨q + 1 + 1, by omega, by go_num, by rw [HD.out]; exact HOWN, HV, hbz, hL1⟩
            case measure => simp [intOf]; omega
          · have HD := Lib.hid (HNEW.out (.inr ⟨by omega, heq⟩))
            have kq := beq_f heq
            have kn : (ys[q + 1] != ys[q]) = true := by simp [heq]
            clear heq
            generalize ys[q] = yq at *
            have HO := Lib.hid HOWN.out
            have HOL := Lib.hid hol
            generalize ys[(q + 1)] = y at *
            generalize insAll [] (ys.take ((q + 1))) = ol at *
            have hol2 : ol.length ≤ n := by omega
            clear HNEW hol htk hc
            go_wp2_with (first
              | (at_builtin; refine wpList_append_rd _ rfl (.tmp 54) (.tmp 56) 22 rfl L 3 i0 (.int .i64 0) 1 8 Tryz.underlying22 Hi0.out HI.out.1 HI.out.2.1 HI.out.2.2 rfl (by omega) _ ol.length (ints ol) rfl (HO.out.alloc _) (wr.heap.size + 1) (some ⟨wr.heap.size, 0, none⟩) 1 1 [.int .i64 y] rfl (Rd.blk (cs := #[.int .i64 y]) (blk_new _ _) rfl (by omega)) (by simp [Value.oneCell']) (by omega) (by simp; omega) ?_
                 intro v5 w5 hown5 hg5 hat5
                 have hbz5 := (below_step hbz (below_new wr (.cells #[.int .i64 y] 3))).grown hg5 (by simp; omega) (fun k e => Nat.le_trans hL0 (own_ge HO.out k e))
                 have HV5 := Lib.hid ((HV.out.below (below_new wr (.cells #[.int .i64 y] 3))).keep (fun b h1 h2 => hg5.block b h2 (fun e => by have := own_ge HO.out b e.symm; omega)))
                 have hL5 : L ≤ w5.heap.size := Nat.le_trans hL1 (Nat.le_trans (by simp) hg5.size)
                 have HOWN5 := Lib.hid hown5
                 clear hown5 hg5 hat5))
            go_roundw
            case rel => exact ⟨(q + 1) + 1, by omega, by go_num, by rw [HD.out]; exact Lib.hid (by simpa [ints] using HOWN5.out), HV5, hbz5, hL5⟩
            case measure => simp [intOf]; omega
      · obtain rfl : n = k := by omega
        have HO : Hid (wr.ownsRow L 3 1 u6 us.length (ints us)) := Lib.hid (by
          have h := HOWN.out
          rw [List.take_of_length_le (by rw [HN.out]; omega), ← HU.out] at h
          exact h)
        clear HOWN HV HSL HN HU
        go_wp2
        go_ret
        exact ⟨_, rfl, own_base HO.out hL0, hbz⟩
  · have hr : x.regs = x.args := by rw [HR.out]; simp
    have HRD : Hid (∀ W, Below w.heap.size w W → Rd W B 1 (ints x.args) A x.args.length) := Lib.hid (fun W hW => by
      obtain ⟨A', c', hv, _, _, _, _, hrd⟩ := HX.out.below hW hB
      simp only [Value.slice.injEq] at hv
      obtain ⟨rfl, _, rfl⟩ := hv
      exact hrd)
    go_enter Tryz.func14, Tryz.ntmps14
    go_wp2_with fail
    refine (HS.out _ (below_new _ _)).mono ?_
    rintro e w1 ⟨rfl, hb1⟩
    have HSH := Lib.hid (fun (W2 W : World) => HW.out w1 W2 W hb1)
    have d2 : w1.cell? ⟨w.heap.size, 2, none⟩ = some (.int .i64 x.a) := (hb1.cell (p := ⟨w.heap.size, 2, none⟩) (by simp)).trans (by rw [cell_of_row _ w.heap.size _ _ _ _ (blk_new _ _)]; rfl)
    have d3 : w1.cell? ⟨w.heap.size, 3, none⟩ = some (.int .i64 x.b) := (hb1.cell (p := ⟨w.heap.size, 3, none⟩) (by simp)).trans (by rw [cell_of_row _ w.heap.size _ _ _ _ (blk_new _ _)]; rfl)
    have d6 : w1.cell? ⟨w.heap.size, 6, none⟩ = some (.slice A x.args.length c) := (hb1.cell (p := ⟨w.heap.size, 6, none⟩) (by simp)).trans (by rw [cell_of_row _ w.heap.size _ _ _ _ (blk_new _ _)]; rfl)
    have hlt0 : w.heap.size < w1.heap.size := (HSH.out _ _ rfl (Below.refl _ _)).2.2.2.1
    clear HS HW hb1
    have hb2 : Below w.heap.size w (w1.alloc (.cells #[.bool x0, .bool false, .bool false, .bool x3, .bool x4, .bool true, .bool x6, .bool x7] 65)) := (HSH.out _ _ rfl (Below.refl _ _)).2.2.1
    have HB2 := Lib.hid hb2
    clear hb2
    go_wp2_with (first
      | (at_builtin; refine wpList_append_rd _ rfl (.tmp 30) (.tmp 32) 22 rfl w.heap.size 3 i0 (.int .i64 0) 1 8 Tryz.underlying22 Hi0.out HI.out.1 HI.out.2.1 HI.out.2.2 rfl (by omega) (.slice none 0 0) 0 [] rfl (World.ownsRow_nil _ _ _ _) B A x.args.length c (ints x.args) rfl (HRD.out _ HB2.out) (ints_one _) (by omega) (by simp; omega) ?_
         intro v5 w5 hown5 hg5 hat5
         have hbw5 := below_step HB2.out (keep_none hg5)
         have HOWN : Hid (w5.ownsRow w.heap.size 3 1 v5 x.regs.length (ints x.regs)) := Lib.hid (by rw [hr]; simpa [ints] using hown5)
         clear hown5 hg5 hat5 HSH HB2 HRD))
    have w2s : w.heap.size ≤ w5.heap.size := hbw5.size
    have HB := Lib.hid hbw5
    clear hbw5
    refine (c_sortInts x.regs v5 _ w2s HOWN.out HRL.out).mono ?_
    rintro e W1 ⟨rfl, hown1, hg1⟩
    have HB1 := Lib.hid (HB.out.grown hg1 w2s (fun k h => own_ge HOWN.out k h))
    obtain ⟨A1, c1, rfl⟩ := own_form hown1
    have HV1 : Hid (Vals A1 W1.heap.size (srt x.regs) W1) := Lib.hid (Vals.of (by rw [srt_len]; exact hown1))
    clear HB HOWN hown1 hg1 HR
    generalize hn : x.regs.length = n at *
    have HN : Hid ((srt x.regs).length = n) := Lib.hid ((srt_len _).trans hn)
    have HU : Hid (x.uses = insAll [] (srt x.regs)) := Lib.hid (insAll_srt x.regs).symm
    have HSL := Lib.hid (srt_le x.regs)
    clear hn
    generalize srt x.regs = ys at *
    generalize x.uses = us at *
    have hn40 := HRL.out
    have hbz := HB1.out
    generalize hL : W1.heap.size = L at HV1
    have hL0 : w.heap.size ≤ L := by rw [← hL]; exact hbz.size
    have hL1 : L ≤ W1.heap.size := Nat.le_of_eq hL.symm
    clear hL
    go_wp2
    obtain ⟨W0, rfl⟩ : ∃ W0 : World, W0 = W1 := ⟨_, rfl⟩
    go_loopw [6, 38] (fun ov s wr => ∃ k : Nat, k ≤ n ∧ s = .int .i64 k ∧ Hid (wr.ownsRow L 3 1 ov (insAll [] (ys.take k)).length (ints (insAll [] (ys.take k)))) ∧ Hid (Vals A1 L ys wr) ∧ Below w.heap.size w wr ∧ L ≤ wr.heap.size) (fun _ s _ => n - (intOf s).toNat)
    case atStart => exact ⟨0, by omega, rfl, Lib.hid (World.ownsRow_nil _ _ _ _), HV1, hbz, hL1⟩
    case round =>
      clear HV1 hbz hL1 HB1
      obtain ⟨k, hk, rfl, HOWN, HV, hbz, hL1⟩ := hrel
      by_cases hkn : k < n
      · have hky : k < ys.length := by rw [HN.out]; exact hkn
        rcases HV.out with h0 | ⟨g, rfl, hg, hg2, hc⟩
        · omega
        have hk0 : (0 : Int) ≤ (k : Int) := by omega
        have hk1 : (k : Int) < (n : Int) := by omega
        have hck := hc k hky
        have hol := (insAll_len [] (ys.take k)).2
        have htk : (ys.take k).length ≤ k := by simp; omega
        simp only [List.length_nil, Nat.zero_add] at hol
        have HNEW := Lib.hid (dd_new HSL.out hky)
        cases k with
        | zero =>
          have HD := Lib.hid (HNEW.out (.inl rfl))
          have HO := Lib.hid HOWN.out
          have HOL := Lib.hid hol
          generalize ys[0] = y at *
          generalize insAll [] (ys.take (0)) = ol at *
          have hol2 : ol.length ≤ n := by omega
          clear HNEW hol htk hc
          go_wp2_with (first
            | (at_builtin; refine wpList_append_rd _ rfl (.tmp 54) (.tmp 56) 22 rfl L 3 i0 (.int .i64 0) 1 8 Tryz.underlying22 Hi0.out HI.out.1 HI.out.2.1 HI.out.2.2 rfl (by omega) _ ol.length (ints ol) rfl (HO.out.alloc _) (wr.heap.size + 1) (some ⟨wr.heap.size, 0, none⟩) 1 1 [.int .i64 y] rfl (Rd.blk (cs := #[.int .i64 y]) (blk_new _ _) rfl (by omega)) (by simp [Value.oneCell']) (by omega) (by simp; omega) ?_
               intro v5 w5 hown5 hg5 hat5
               have hbz5 := (below_step hbz (below_new wr (.cells #[.int .i64 y] 3))).grown hg5 (by simp; omega) (fun k e => Nat.le_trans hL0 (own_ge HO.out k e))
               have HV5 := Lib.hid ((HV.out.below (below_new wr (.cells #[.int .i64 y] 3))).keep (fun b h1 h2 => hg5.block b h2 (fun e => by have := own_ge HO.out b e.symm; omega)))
               have hL5 : L ≤ w5.heap.size := Nat.le_trans hL1 (Nat.le_trans (by simp) hg5.size)
               have HOWN5 := Lib.hid hown5
               clear hown5 hg5 hat5))
          go_roundw
          case rel => exact ⟨0 + 1, by omega, by go_num, by rw [HD.out]; exact Lib.hid (by simpa [ints] using HOWN5.out), HV5, hbz5, hL5⟩
          case measure => simp [intOf]; omega
        | succ q =>
          have hcq := hc q (by omega)
          have hqs : IntKind.i64.wrap (((q + 1 : Nat) : Int) - 1) = (q : Int) := by rw [IntWalk.i64_in _ (by omega)]; omega
          have hqn : (q : Int) < (n : Int) := by omega
          by_cases heq : ys[q + 1] = ys[q]
          · have HD := Lib.hid (dd_old hky heq)
            rw [heq] at hck
            clear hc HNEW heq hol htk
            generalize ys[q] = yq at *
            go_wp2
            go_roundw
            case rel => exact ⟨q + 1 + 1, by omega, by go_num, by rw [HD.out]; exact HOWN, HV, hbz, hL1⟩
            case measure => simp [intOf]; omega
          · have HD := Lib.hid (HNEW.out (.inr ⟨by omega, heq⟩))
            have kq := beq_f heq
            have kn : (ys[q + 1] != ys[q]) = true := by simp [heq]
            clear heq
            generalize ys[q] = yq at *
            have HO := Lib.hid HOWN.out
            have HOL := Lib.hid hol
            generalize ys[(q + 1)] = y at *
            generalize insAll [] (ys.take ((q + 1))) = ol at *
            have hol2 : ol.length ≤ n := by omega
            clear HNEW hol htk hc
            go_wp2_with (first
              | (at_builtin; refine wpList_append_rd _ rfl (.tmp 54) (.tmp 56) 22 rfl L 3 i0 (.int .i64 0) 1 8 Tryz.underlying22 Hi0.out HI.out.1 HI.out.2.1 HI.out.2.2 rfl (by omega) _ ol.length (ints ol) rfl (HO.out.alloc _) (wr.heap.size + 1) (some ⟨wr.heap.size, 0, none⟩) 1 1 [.int .i64 y] rfl (Rd.blk (cs := #[.int .i64 y]) (blk_new _ _) rfl (by omega)) (by simp [Value.oneCell']) (by omega) (by simp; omega) ?_
                 intro v5 w5 hown5 hg5 hat5
                 have hbz5 := (below_step hbz (below_new wr (.cells #[.int .i64 y] 3))).grown hg5 (by simp; omega) (fun k e => Nat.le_trans hL0 (own_ge HO.out k e))
                 have HV5 := Lib.hid ((HV.out.below (below_new wr (.cells #[.int .i64 y] 3))).keep (fun b h1 h2 => hg5.block b h2 (fun e => by have := own_ge HO.out b e.symm; omega)))
                 have hL5 : L ≤ w5.heap.size := Nat.le_trans hL1 (Nat.le_trans (by simp) hg5.size)
                 have HOWN5 := Lib.hid hown5
                 clear hown5 hg5 hat5))
            go_roundw
            case rel => exact ⟨(q + 1) + 1, by omega, by go_num, by rw [HD.out]; exact Lib.hid (by simpa [ints] using HOWN5.out), HV5, hbz5, hL5⟩
            case measure => simp [intOf]; omega
      · obtain rfl : n = k := by omega
        have HO : Hid (wr.ownsRow L 3 1 u6 us.length (ints us)) := Lib.hid (by
          have h := HOWN.out
          rw [List.take_of_length_le (by rw [HN.out]; omega), ← HU.out] at h
          exact h)
        clear HOWN HV HSL HN HU
        go_wp2
        go_ret
        exact ⟨_, rfl, own_base HO.out hL0, hbz⟩
end Go.Proofs.YtdjldmpfginkdaaGreatDoor
namespace Go.Proofs.YtdjldmpfginkdaaGreatDoor
open Go.RowKit

/-- Rows vs a stand in block bo for a < k, v is row k, the rest is nil. -/
structure Outs (bo n k Lk : Nat) (lv : Nat → List Int) (vs : Nat → Value) (v : Value) (W : World) : Prop where
  row : RowV W bo 22 (tabV n fun a => if a < k then vs a else if a = k then v else .slice none 0 0)
  old : ∀ a, a < k → W.ownsRow (bo + 1) 3 1 (vs a) (lv a).length (ints (lv a)) ∧ ∀ g, (vs a).ownBlock = some g → g < Lk
  lt : bo < Lk
section
variable {bo n k Lk : Nat} {lv : Nat → List Int} {vs : Nat → Value} {v v' : Value} {W W' : World}
theorem Outs.start (W : World) (n : Nat) (lv : Nat → List Int) (vs : Nat → Value) : Outs W.heap.size n 0 (W.heap.size + 1) lv vs (.slice none 0 0) (W.alloc (.cells (Array.replicate n (.slice none 0 0)) 22)) := by
  refine ⟨?_, fun a ha => by omega, by omega⟩
  rw [tabV_congr (g := fun _ => .slice none 0 0) (fun a _ => by simp), ← tabV_const]
  exact blk_new _ _
theorem Outs.grown {row : Option Nat} (h : Outs bo n k Lk lv vs v W) (hg : W.grownBy W' row) (hr : ∀ g, row = some g → Lk ≤ g) : Outs bo n k Lk lv vs v W' := by
  have hlt := h.lt
  refine ⟨RowV.keep h.row (hg.block bo (RowV.lt h.row) (fun e => by have := hr bo e.symm; omega)), fun a ha => ⟨(h.old a ha).1.kept hg ?_, (h.old a ha).2⟩, hlt⟩
  cases ho : (vs a).ownBlock with
  | none => exact .inl rfl
  | some g =>
    have h1 := (h.old a ha).2 g ho
    refine .inr fun e => ?_
    have := hr g e.symm
    omega
theorem Outs.alloc (h : Outs bo n k Lk lv vs v W) (o : Obj) : Outs bo n k Lk lv vs v (W.alloc o) := h.grown (World.grownBy_alloc W o none) (by simp)
theorem Outs.set (h : Outs bo n k Lk lv vs v W) (v' : Value) : Outs bo n k Lk lv vs v' (W.setCell ⟨bo, k, none⟩ v') := by
  refine ⟨?_, fun a ha => ⟨own_set (h.old a ha).1 (by omega) k v', (h.old a ha).2⟩, h.lt⟩
  have h1 := RowV.set h.row k v'
  rw [tabV_set] at h1
  rw [tabV_congr (g := fun a => if a = k then v' else if a < k then vs a else if a = k then v else .slice none 0 0) (fun a _ => ?_)]
  · exact h1
  · by_cases h2 : a = k
    · simp [h2]
    · simp [h2]
theorem Outs.next (h : Outs bo n k Lk lv vs v W) (ho : W.ownsRow Lk 3 1 v (lv k).length (ints (lv k))) : Outs bo n (k + 1) W.heap.size lv (fun a => if a = k then v else vs a) (.slice none 0 0) W := by
  have hlt := h.lt
  refine ⟨?_, fun a ha => ?_, RowV.lt h.row⟩
  · rw [tabV_congr (g := fun a => if a < k then vs a else if a = k then v else .slice none 0 0) (fun a _ => ?_)]
    · exact h.row
    · by_cases h2 : a = k
      · simp [h2]
      · by_cases h3 : a < k
        · simp [h2, h3, Nat.lt_succ_of_lt h3]
        · have : ¬ a < k + 1 := by omega
          simp [h2, h3, this]
  · by_cases h2 : a = k
    · subst h2
      rw [if_pos rfl]
      exact ⟨own_base ho (by omega), fun g hg => (ho.lt g hg).2⟩
    · rw [if_neg h2]
      have h3 := h.old a (by omega)
      exact ⟨h3.1, fun g hg => (h3.1.lt g hg).2⟩
theorem Outs.get (h : Outs bo n k Lk lv vs v W) (hk : k < n) : W.cell? ⟨bo, k, none⟩ = some v := by
  have := RowV.cell h.row (tabV_get hk)
  simpa using this
theorem Outs.done (h : Outs bo n n Lk lv vs v W) (hn : n ≤ 2 ^ 40) : IsRows W W.heap.size ((List.range n).map lv) (.slice (some ⟨bo, 0, none⟩) n n) := by
  have hl : ((List.range n).map lv).length = n := by simp
  refine ⟨some ⟨bo, 0, none⟩, n, tabV n fun a => if a < n then vs a else if a = n then v else .slice none 0 0, by rw [hl], by rw [hl]; exact Nat.le_refl _, by unfold maxLen; omega, ?_, by rw [hl]; exact tabV_len _ _, fun i l u h1 h2 => ?_⟩
  · rw [hl]
    exact Rd.blk (cs := (tabV n fun a => if a < n then vs a else if a = n then v else .slice none 0 0).toArray) h.row (by simp [tabV]) (RowV.lt h.row)
  · have hi : i < n := by
      have := (List.getElem?_eq_some_iff.1 h1).1
      rw [hl] at this
      exact this
    rw [tabV_get hi, if_pos hi] at h2
    cases h2
    have h3 : ((List.range n).map lv)[i]? = some (lv i) := by simp [hi]
    rw [h3] at h1
    cases h1
    exact IsInts.own (h.old i hi).1
end
end Go.Proofs.YtdjldmpfginkdaaGreatDoor
namespace Go.Proofs.YtdjldmpfginkdaaGreatDoor
open Go.RowKit

structure Grw (L0 k Lk : Nat) (lv : Nat → List Int) (vs : Nat → Value) (v : Value) (W : World) : Prop where
  own : W.ownsRow L0 22 1 v k (tabV k vs)
  old : ∀ a, a < k → W.ownsRow L0 3 1 (vs a) (lv a).length (ints (lv a)) ∧ ∀ g, (vs a).ownBlock = some g → g < Lk
theorem own_apart {W : World} {B B' : Nat} {e e' : TypeId} {v u : Value} {n n' : Nat} {xs xs' : List Value} (h : W.ownsRow B e 1 v n xs) (h' : W.ownsRow B' e' 1 u n' xs') (hne : e ≠ e') : v.ownBlock = none ∨ v.ownBlock ≠ u.ownBlock := by
  cases ho : v.ownBlock with
  | none => exact .inl rfl
  | some g =>
    refine .inr fun e1 => ?_
    obtain ⟨c, fz, h1⟩ := Lib.ownsRow_kind h g ho
    obtain ⟨c', fz', h2⟩ := Lib.ownsRow_kind h' g e1.symm
    rw [h1] at h2
    simp only [Option.some.injEq, Obj.cells.injEq] at h2
    exact hne h2.2.1
section
variable {L0 k Lk : Nat} {lv : Nat → List Int} {vs : Nat → Value} {v u : Value} {W W' : World}
theorem Grw.start (W : World) (L0 : Nat) (lv : Nat → List Int) (vs : Nat → Value) : Grw L0 0 W.heap.size lv vs (.slice none 0 0) W := ⟨World.ownsRow_nil _ _ _ _, fun a ha => by omega⟩
theorem Grw.below (h : Grw L0 k Lk lv vs v W) (hb : Below W.heap.size W W') : Grw L0 k Lk lv vs v W' := by
  have hg : W.grownBy W' none := ⟨hb.os, hb.tape, hb.output, hb.size, fun i hi _ => hb.block i hi⟩
  exact ⟨h.own.kept hg (by cases v.ownBlock <;> simp), fun a ha => ⟨(h.old a ha).1.kept hg (by cases (vs a).ownBlock <;> simp), (h.old a ha).2⟩⟩
theorem Grw.grownI (h : Grw L0 k Lk lv vs v W) {n : Nat} {xs : List Value} (hu : W.ownsRow Lk 3 1 u n xs) (hg : W.grownBy W' u.ownBlock) : Grw L0 k Lk lv vs v W' := by
  refine ⟨h.own.kept hg (own_apart h.own hu (by decide)), fun a ha => ⟨(h.old a ha).1.kept hg ?_, (h.old a ha).2⟩⟩
  cases ho : (vs a).ownBlock with
  | none => exact .inl rfl
  | some g =>
    refine .inr fun e => ?_
    have h1 := (h.old a ha).2 g ho
    have h2 := own_ge hu g e.symm
    omega
theorem Grw.add (h : Grw L0 k Lk lv vs v W) {v' : Value} (hL : L0 ≤ Lk) (hu : W.ownsRow Lk 3 1 u (lv k).length (ints (lv k))) (hown : W'.ownsRow L0 22 1 v' (k + 1) (tabV k vs ++ [u])) (hg : W.grownBy W' v.ownBlock) :
    Grw L0 (k + 1) W'.heap.size lv (fun a => if a = k then u else vs a) v' W' := by
  have hs := hg.size
  refine ⟨?_, fun a ha => ?_⟩
  · have e : tabV (k + 1) (fun a => if a = k then u else vs a) = tabV k vs ++ [u] := by
      unfold tabV
      rw [List.range_succ, List.map_append]
      congr 1
      · exact List.map_congr_left fun a ha => by have := List.mem_range.1 ha; rw [if_neg (by omega)]
      · simp
    rw [e]
    exact hown
  · by_cases e : a = k
    · subst e
      rw [if_pos rfl]
      have h1 := hu.kept hg (own_apart hu h.own (by decide))
      exact ⟨own_base h1 hL, fun g hg' => (h1.lt g hg').2⟩
    · rw [if_neg e]
      have h2 := h.old a (by omega)
      have h1 := h2.1.kept hg (own_apart h2.1 h.own (by decide))
      exact ⟨h1, fun g hg' => (h1.lt g hg').2⟩
theorem Grw.done (h : Grw L0 k Lk lv vs v W) : IsRows W W.heap.size ((List.range k).map lv) v := by
  have hl : ((List.range k).map lv).length = k := by simp
  have hi : ∀ (i : Nat) (l : List Int) (u : Value), ((List.range k).map lv)[i]? = some l → (tabV k vs)[i]? = some u → IsInts W W.heap.size l u := fun i l u h1 h2 => by
    have hi : i < k := by
      have := (List.getElem?_eq_some_iff.1 h1).1
      rw [hl] at this
      exact this
    rw [tabV_get hi] at h2
    cases h2
    have h3 : ((List.range k).map lv)[i]? = some (lv i) := by simp [hi]
    rw [h3] at h1
    cases h1
    exact IsInts.own (h.old i hi).1
  have ho := h.own
  rcases ho.2 with ⟨rfl, h0⟩ | ⟨g, cap, cur, rfl, hb, hh, hnc, hcm, hcs, ht⟩
  · subst h0
    exact ⟨none, 0, [], rfl, Nat.le_refl _, by decide, Rd.nil, rfl, fun i l u h1 _ => by simp at h1⟩
  · refine ⟨_, _, tabV k vs, by rw [hl], by rw [hl]; exact hnc, hcm, ?_, by rw [hl]; exact tabV_len _ _, hi⟩
    rw [hl]
    exact Rd.own ho
end
end Go.Proofs.YtdjldmpfginkdaaGreatDoor
namespace Go.Proofs.YtdjldmpfginkdaaGreatDoor
open Go.RowKit
attribute [local go_sem ↓] Go.wp_at_zero Go.wp_at_succ

/-- A tape lies at block sb: a list of numbers in older memory, and a position that is at most K. -/
def TapeOk (w : World) (sb K : Nat) : Prop := ∃ (A : Option Addr) (n c k : Nat) (xs : List Int), w.heap[sb]? = some (.cells #[.slice A n c, .int .i64 k] 56 (0, 0)) ∧ k ≤ K ∧ n ≤ 2 ^ 47 ∧ (∀ x ∈ xs, inI x) ∧ Rd w sb 1 (ints xs) A n
theorem TapeOk.keep {w w' : World} {sb K : Nat} (h : TapeOk w sb K) (hk : ∀ b, b ≤ sb → w'.heap[b]? = w.heap[b]?) : TapeOk w' sb K := by
  obtain ⟨A, n, c, k, xs, h1, h2, h3, h4, h5⟩ := h
  exact ⟨A, n, c, k, xs, (hk sb (Nat.le_refl _)).trans h1, h2, h3, h4, h5.keep (fun b hb => hk b (by omega)) (Nat.le_refl _)⟩
theorem TapeOk.lt {w : World} {sb K : Nat} (h : TapeOk w sb K) : sb < w.heap.size := by
  obtain ⟨A, n, c, k, xs, h1, _⟩ := h
  exact (Array.getElem?_eq_some_iff.1 h1).1
theorem TapeOk.below {w w' : World} {sb K C : Nat} (h : TapeOk w sb K) (hb : Below C w w') (hC : sb < C) : TapeOk w' sb K := h.keep fun b hb' => hb.block b (by omega)
theorem TapeOk.more {w : World} {sb K K' : Nat} (h : TapeOk w sb K) (hK : K ≤ K') : TapeOk w sb K' := by
  obtain ⟨A, n, c, k, xs, h1, h2, h3⟩ := h
  exact ⟨A, n, c, k, xs, h1, by omega, h3⟩
/-- Some number between lo and hi comes back; the tape has moved on by at most d, nothing else has changed. -/
def RetT (lo hi : Int) (sb K : Nat) (w : World) (e : Ending) (w' : World) : Prop := ∃ r : Int, e = .returned (.int .i64 r) ∧ lo ≤ r ∧ r ≤ hi ∧ TapeOk w' sb K ∧ w.grownBy w' (some sb)
theorem tape_set {w : World} {sb K : Nat} {A : Option Addr} {n c k k' : Nat} {xs : List Int} (h1 : w.heap[sb]? = some (.cells #[.slice A n c, .int .i64 k] 56 (0, 0))) (h2 : k' ≤ K) (h3 : n ≤ 2 ^ 47) (h4 : ∀ x ∈ xs, inI x) (h5 : Rd w sb 1 (ints xs) A n) (q : Nat) :
    TapeOk ((w.drewN q).setCell ⟨sb, 1, none⟩ (.int .i64 k')) sb K ∧ w.grownBy ((w.drewN q).setCell ⟨sb, 1, none⟩ (.int .i64 k')) (some sb) := by
  refine ⟨⟨A, n, c, k', xs, ?_, h2, h3, h4, h5.keep (fun b hb => ?_) (Nat.le_refl _)⟩, ⟨rfl, rfl, rfl, ?_, fun b hb hne => ?_⟩⟩
  · simp [World.setCell, Array.getElem?_modify, h1]
  · exact Below.heap_setCell _ _ _ _ (by show b ≠ sb; omega)
  · simp [World.setCell]
  · exact Below.heap_setCell _ _ _ _ (by intro e; exact hne (by rw [e]))
theorem tmod_rng {a m : Int} (hm : 1 ≤ m) : -m < a.tmod m ∧ a.tmod m < m := by
  have h1 := Int.tmod_eq_emod (a := a) (b := m)
  have h2 := Int.emod_nonneg a (show m ≠ 0 by omega)
  have h3 := Int.emod_lt_of_pos a (show 0 < m by omega)
  rw [h1]
  split <;> omega
set_option maxHeartbeats 2000000 in
theorem c_TNext (m : Int) (sb K : Nat) (w : World) (h : TapeOk w sb K) (hK : K ≤ 2 ^ 50) (hm : 1 ≤ m) (hm2 : m ≤ 2 ^ 62) :
    Calls Tryz.prog 19 #[.pointer (some ⟨sb, 0, none⟩), .int .i64 m] w (RetT 0 (m - 1) sb (K + 1) w) := by
  obtain ⟨A, n, c, k, xs, h1, h2, h3, h4, h5⟩ := h
  have q0 : w.cell? ⟨sb, 0, none⟩ = some (.slice A n c) := by rw [cell_of_row w sb 0 _ _ _ h1]; rfl
  have q1 : w.cell? ⟨sb, 1, none⟩ = some (.int .i64 k) := by rw [cell_of_row w sb 1 _ _ _ h1]; rfl
  have q2 : w.frozen? ⟨sb, 1, none⟩ = false := by simp [World.frozen?, h1]
  have HST := Lib.hid (fun q => tape_set (k' := k + 1) (K := K + 1) h1 (by omega) h3 h4 h5 q)
  have H4 := Lib.hid h4
  have H5 := Lib.hid h5
  clear h1 h4 h5
  have hk0 : (0 : Int) ≤ (k : Int) := by omega
  have hz : (m == 0) = false := by rw [beq_eq_false_iff_ne]; omega
  have hz2 : ¬ m = 0 := by omega
  by_cases hkn : k < n
  · obtain ⟨g, o, hj, rfl, hg, hcell⟩ := H5.out.at_ (j := k) (by omega)
    have hgsb : ¬ g = sb := by omega
    rw [ints_get] at hcell
    have hj' : k < xs.length := by simpa [ints] using hj
    have hcell' : w.cell? ⟨g, o + k, none⟩ = some (.int .i64 xs[k]) := hcell
    have HXI : Hid (inI xs[k]) := Lib.hid (H4.out _ (List.getElem_mem hj'))
    generalize xs[k] = x at *
    have hk1 : (k : Int) < (n : Int) := by omega
    have HM := Lib.hid (tmod_rng (a := x) hm)
    clear hcell
    go_enter Tryz.func19, Tryz.ntmps19
    go_wp2_with fail
    go_quiet (fail)
    go_wp2_with fail
    go_quiet (fail)
    by_cases hm1 : m ≤ 1
    · go_wp2
      go_ret
      have h := HST.out
      exact ⟨0, rfl, by omega, by omega, (h _).1, (h _).2⟩
    · have hr := HM.out
      by_cases hneg : x.tmod m < 0
      · go_wp2
        go_ret
        exact ⟨_, rfl, by omega, by omega, (HST.out _).1, (HST.out _).2⟩
      · go_wp2
        go_ret
        exact ⟨_, rfl, by omega, by omega, (HST.out _).1, (HST.out _).2⟩
  · have hkn2 : ¬ (k : Int) < (n : Int) := by omega
    have h0 : (0 : Int).tmod m = 0 := by simp
    go_enter Tryz.func19, Tryz.ntmps19
    go_wp2_with fail
    go_quiet (fail)
    by_cases hm1 : m ≤ 1
    · go_wp2
      go_ret
      exact ⟨0, rfl, by omega, by omega, (HST.out _).1, (HST.out _).2⟩
    · go_wp2
      go_ret
      exact ⟨0, rfl, by omega, by omega, (HST.out _).1, (HST.out _).2⟩
set_option maxHeartbeats 400000 in
theorem c_TNew (xs : List Int) (v : Value) (w : World) (hv : IsInts w w.heap.size xs v) (hx : ∀ x ∈ xs, inI x) (hn : xs.length ≤ 2 ^ 47) :
    Calls Tryz.prog 6 #[v] w fun e w' => e = .returned (.pointer (some ⟨w.heap.size, 0, none⟩)) ∧ TapeOk w' w.heap.size 0 ∧ Below w.heap.size w w' ∧ w'.heap.size = w.heap.size + 1 := by
  obtain ⟨A, c, rfl, hc, hm, _, _, hr⟩ := hv
  have HR := Lib.hid hr
  have HX := Lib.hid hx
  clear hr hx
  generalize hl : xs.length = n at *
  go_enter Tryz.func6, Tryz.ntmps6
  go_wp2
  go_ret
  exact ⟨rfl, ⟨A, n, c, 0, xs, blk_new _ _, by omega, hn, HX.out, HR.out.below ((Below.refl _ _).alloc (Nat.le_refl _) _) (Nat.le_refl _)⟩, (Below.refl _ _).alloc (Nat.le_refl _) _, by simp⟩
set_option maxHeartbeats 400000 in
theorem c_TReg (c : Int) (sb K : Nat) (w : World) (h : TapeOk w sb K) (hK : K ≤ 2 ^ 50) :
    Calls Tryz.prog 20 #[.pointer (some ⟨sb, 0, none⟩), .int .i64 c] w (RetT 0 6 sb (K + 1) w) := by
  have HN := Lib.hid (fun (m : Int) (h1 : 1 ≤ m) (h2 : m ≤ 2 ^ 62) => c_TNext m sb K w h hK h1 h2)
  clear h
  by_cases h1 : c = 1
  · subst h1
    go_enter Tryz.func20, Tryz.ntmps20
    go_wp2_with fail
    refine (HN.out 2 (by omega) (by omega)).mono ?_
    rintro e w1 ⟨r, rfl, hr0, hr1, ht, hg⟩
    have HT := Lib.hid ht
    have HG := Lib.hid hg
    clear ht hg HN
    go_wp2
    go_ret
    exact ⟨_, rfl, by omega, by omega, HT.out, HG.out⟩
  by_cases h2 : c = 2
  · subst h2
    go_enter Tryz.func20, Tryz.ntmps20
    go_wp2_with fail
    refine (HN.out 2 (by omega) (by omega)).mono ?_
    rintro e w1 ⟨r, rfl, hr0, hr1, ht, hg⟩
    have HT := Lib.hid ht
    have HG := Lib.hid hg
    clear ht hg HN
    go_wp2
    go_ret
    exact ⟨_, rfl, by omega, by omega, HT.out, HG.out⟩
  have k1 := beq_f h1
  have k2 := beq_f h2
  go_enter Tryz.func20, Tryz.ntmps20
  go_wp2_with fail
  refine (HN.out 3 (by omega) (by omega)).mono ?_
  rintro e w1 ⟨r, rfl, hr0, hr1, ht, hg⟩
  have HT := Lib.hid ht
  have HG := Lib.hid hg
  clear ht hg HN
  go_wp2
  go_ret
  exact ⟨_, rfl, by omega, by omega, HT.out, HG.out⟩
/-- A constant comes back; the tape has moved on. -/
def RetC (sb K : Nat) (w : World) (e : Ending) (w' : World) : Prop := ∃ (ck ci : Int) (cs : ByteArray), e = .returned (.agg #[.int .i64 ck, .int .i64 ci, .string cs, .slice none 0 0]) ∧ cs.size ≤ 2 ∧ TapeOk w' sb K ∧ w.grownBy w' (some sb)
theorem TapeOk.grown_new {w : World} {sb K : Nat} (h : TapeOk w sb K) (o : Obj) : TapeOk (w.alloc o) sb K := h.below (below_new w o) h.lt
theorem grown_trans {w w1 w2 : World} {r : Option Nat} (h1 : w.grownBy w1 r) (h2 : w1.grownBy w2 r) : w.grownBy w2 r :=
  ⟨h2.os.trans h1.os, h2.tape.trans h1.tape, h2.output.trans h1.output, Nat.le_trans h1.size h2.size, fun k hk hne => (h2.block k (Nat.lt_of_lt_of_le hk h1.size) hne).trans (h1.block k hk hne)⟩
theorem grown_set_new {w w1 : World} {r : Option Nat} (h : w.grownBy w1 r) {b : Nat} (hb : w.heap.size ≤ b) (i : Nat) (u : Value) : w.grownBy (w1.setCell ⟨b, i, none⟩ u) r :=
  ⟨h.os, h.tape, h.output, by simp [World.setCell]; exact h.size, fun k hk hne => by
    rw [Below.heap_setCell _ _ _ _ (by show k ≠ b; omega)]
    exact h.block k hk hne⟩
theorem box4_set {W : World} {b : Nat} {T : TypeId} {z0 z1 z2 z3 : Value} (hx : W.heap[b]? = some (.cells #[z0, z1, z2, z3] T (0, 0))) (v0 v1 v2 v3 : Value) {WF : World} (h : ((((W.setCell ⟨b, 0, none⟩ v0).setCell ⟨b, 1, none⟩ v1).setCell ⟨b, 2, none⟩ v2).setCell ⟨b, 3, none⟩ v3) = WF) :
    WF.cell? ⟨b, 0, none⟩ = some v0 ∧ WF.cell? ⟨b, 1, none⟩ = some v1 ∧ WF.cell? ⟨b, 2, none⟩ = some v2 ∧ WF.cell? ⟨b, 3, none⟩ = some v3 := by
  subst h
  have h3 := heap_setCell_same _ b 3 _ _ v3 (heap_setCell_same _ b 2 _ _ v2 (heap_setCell_same _ b 1 _ _ v1 (heap_setCell_same W b 0 _ _ v0 hx)))
  refine ⟨?_, ?_, ?_, ?_⟩
  all_goals (rw [cell_of_row _ b _ _ _ _ h3]; simp)
set_option maxHeartbeats 2000000 in
theorem c_TConst (sb K : Nat) (w : World) (h : TapeOk w sb K) (hK : K ≤ 2 ^ 49) :
    Calls Tryz.prog 21 #[.pointer (some ⟨sb, 0, none⟩)] w (RetC sb (K + 2) w) := by
  have HN := Lib.hid (fun (m : Int) (W : World) (hW : TapeOk W sb (K + 1)) (h1 : 1 ≤ m) (h2 : m ≤ 2 ^ 62) => c_TNext m sb (K + 1) W hW (by omega) h1 h2)
  have HN0 := Lib.hid (c_TNext 6 sb K (w.alloc (.cells #[.int .i64 0, .int .i64 0, .string ⟨#[]⟩, .slice none 0 0] 36)) (h.grown_new _) (by omega) (by omega) (by omega))
  have hlt := h.lt
  clear h
  go_enter Tryz.func21, Tryz.ntmps21
  go_wp2_with fail
  refine HN0.out.mono ?_
  rintro e w1 ⟨r, rfl, hr0, hr1, ht, hg⟩
  have HT1 := Lib.hid ht
  have HG1 := Lib.hid (grown_trans (World.grownBy_alloc w (.cells #[.int .i64 0, .int .i64 0, .string ⟨#[]⟩, .slice none 0 0] 36) (some sb)) hg)
  have HX : Hid (w1.heap[w.heap.size]? = some (.cells #[.int .i64 0, .int .i64 0, .string ⟨#[]⟩, .slice none 0 0] 36 (0, 0))) := Lib.hid ((hg.block w.heap.size (by simp) (by simp; omega)).trans (blk_new _ _))
  have hz1 : w.heap.size < w1.heap.size := Nat.lt_of_lt_of_le (by simp) hg.size
  clear ht hg HN0
  have hf : ∀ i, w1.frozen? ⟨w.heap.size, i, none⟩ = false := fun i => by simp [World.frozen?, HX.out]
  have hc : ∀ i, w1.cell? ⟨w.heap.size, i, none⟩ = (#[.int .i64 0, .int .i64 0, .string ⟨#[]⟩, .slice none 0 0] : Array Value)[i]? := fun i => cell_of_row _ _ _ _ _ _ HX.out
  have hr : r = 0 ∨ r = 1 ∨ r = 2 ∨ r = 3 ∨ (3 < r) := by omega
  rcases hr with rfl | rfl | rfl | rfl | hr
  ·
    go_wp2_with fail
    refine (HN.out (9) w1 HT1.out (by omega) (by omega)).mono ?_
    rintro e w2 ⟨y, rfl, hy0, hy1, ht2, hg2⟩
    have HT2 := Lib.hid ht2
    have HG2 := Lib.hid (grown_trans HG1.out hg2)
    have HX2 : Hid (w2.heap[w.heap.size]? = some (.cells #[.int .i64 0, .int .i64 0, .string ⟨#[]⟩, .slice none 0 0] 36 (0, 0))) := Lib.hid ((hg2.block w.heap.size (by omega) (by simp; omega)).trans HX.out)
    have hz2 := hg2.size
    clear HX HT1 HG1 ht2 hg2 hf hc hr0 hr1
    have HX := HX2
    clear HX2
    have hf : ∀ i, w2.frozen? ⟨w.heap.size, i, none⟩ = false := fun i => by simp [World.frozen?, HX.out]
    have hc : ∀ i, w2.cell? ⟨w.heap.size, i, none⟩ = (#[.int .i64 0, .int .i64 0, .string ⟨#[]⟩, .slice none 0 0] : Array Value)[i]? := fun i => cell_of_row _ _ _ _ _ _ HX.out
    go_wp2
    generalize hWF : (((w2.setCell _ _).setCell _ _).setCell _ _).setCell _ _ = WF
    obtain ⟨zz0, zz1, zz2, zz3⟩ := box4_set HX.out _ _ _ _ hWF
    have HFIN : Hid (TapeOk WF sb (K + 2) ∧ w.grownBy WF (some sb)) := Lib.hid (by
      subst hWF
      refine ⟨((HT2.out.keep (fun b hb => ?_)).more (by omega)), grown_set_new (grown_set_new (grown_set_new (grown_set_new HG2.out (Nat.le_refl _) _ _) (Nat.le_refl _) _ _) (Nat.le_refl _) _ _) (Nat.le_refl _) _ _⟩
      rw [Below.heap_setCell _ _ _ _ (by show b ≠ w.heap.size; omega), Below.heap_setCell _ _ _ _ (by show b ≠ w.heap.size; omega), Below.heap_setCell _ _ _ _ (by show b ≠ w.heap.size; omega), Below.heap_setCell _ _ _ _ (by show b ≠ w.heap.size; omega)])
    clear hWF
    exact bodyPost_ret (v := .agg #[.int .i64 (1), .int .i64 (y - 3), .string ⟨#[]⟩, .slice none 0 0]) (by simp [results, Tryz.results21, go_sem, zz0, zz1, zz2, zz3]) rfl ⟨_, _, _, rfl, by decide, HFIN.out.1, HFIN.out.2⟩
  ·
    go_wp2_with fail
    refine (HN.out (2) w1 HT1.out (by omega) (by omega)).mono ?_
    rintro e w2 ⟨y, rfl, hy0, hy1, ht2, hg2⟩
    have HT2 := Lib.hid ht2
    have HG2 := Lib.hid (grown_trans HG1.out hg2)
    have HX2 : Hid (w2.heap[w.heap.size]? = some (.cells #[.int .i64 0, .int .i64 0, .string ⟨#[]⟩, .slice none 0 0] 36 (0, 0))) := Lib.hid ((hg2.block w.heap.size (by omega) (by simp; omega)).trans HX.out)
    have hz2 := hg2.size
    clear HX HT1 HG1 ht2 hg2 hf hc hr0 hr1
    have HX := HX2
    clear HX2
    have hf : ∀ i, w2.frozen? ⟨w.heap.size, i, none⟩ = false := fun i => by simp [World.frozen?, HX.out]
    have hc : ∀ i, w2.cell? ⟨w.heap.size, i, none⟩ = (#[.int .i64 0, .int .i64 0, .string ⟨#[]⟩, .slice none 0 0] : Array Value)[i]? := fun i => cell_of_row _ _ _ _ _ _ HX.out
    go_wp2
    generalize hWF : (((w2.setCell _ _).setCell _ _).setCell _ _).setCell _ _ = WF
    obtain ⟨zz0, zz1, zz2, zz3⟩ := box4_set HX.out _ _ _ _ hWF
    have HFIN : Hid (TapeOk WF sb (K + 2) ∧ w.grownBy WF (some sb)) := Lib.hid (by
      subst hWF
      refine ⟨((HT2.out.keep (fun b hb => ?_)).more (by omega)), grown_set_new (grown_set_new (grown_set_new (grown_set_new HG2.out (Nat.le_refl _) _ _) (Nat.le_refl _) _ _) (Nat.le_refl _) _ _) (Nat.le_refl _) _ _⟩
      rw [Below.heap_setCell _ _ _ _ (by show b ≠ w.heap.size; omega), Below.heap_setCell _ _ _ _ (by show b ≠ w.heap.size; omega), Below.heap_setCell _ _ _ _ (by show b ≠ w.heap.size; omega), Below.heap_setCell _ _ _ _ (by show b ≠ w.heap.size; omega)])
    clear hWF
    exact bodyPost_ret (v := .agg #[.int .i64 (2), .int .i64 (y), .string ⟨#[]⟩, .slice none 0 0]) (by simp [results, Tryz.results21, go_sem, zz0, zz1, zz2, zz3]) rfl ⟨_, _, _, rfl, by decide, HFIN.out.1, HFIN.out.2⟩
  ·
    go_wp2_with fail
    refine (HN.out (3) w1 HT1.out (by omega) (by omega)).mono ?_
    rintro e w2 ⟨y, rfl, hy0, hy1, ht2, hg2⟩
    have HT2 := Lib.hid ht2
    have HG2 := Lib.hid (grown_trans HG1.out hg2)
    have HX2 : Hid (w2.heap[w.heap.size]? = some (.cells #[.int .i64 0, .int .i64 0, .string ⟨#[]⟩, .slice none 0 0] 36 (0, 0))) := Lib.hid ((hg2.block w.heap.size (by omega) (by simp; omega)).trans HX.out)
    have hz2 := hg2.size
    clear HX HT1 HG1 ht2 hg2 hf hc hr0 hr1
    have HX := HX2
    clear HX2
    have hf : ∀ i, w2.frozen? ⟨w.heap.size, i, none⟩ = false := fun i => by simp [World.frozen?, HX.out]
    have hc : ∀ i, w2.cell? ⟨w.heap.size, i, none⟩ = (#[.int .i64 0, .int .i64 0, .string ⟨#[]⟩, .slice none 0 0] : Array Value)[i]? := fun i => cell_of_row _ _ _ _ _ _ HX.out
    have hy : y = 0 ∨ y = 1 ∨ y = 2 := by omega
    rcases hy with rfl | rfl | rfl
    ·
      go_wp2
      generalize hWF : (((w2.setCell _ _).setCell _ _).setCell _ _).setCell _ _ = WF
      obtain ⟨zz0, zz1, zz2, zz3⟩ := box4_set HX.out _ _ _ _ hWF
      have HFIN : Hid (TapeOk WF sb (K + 2) ∧ w.grownBy WF (some sb)) := Lib.hid (by
        subst hWF
        refine ⟨((HT2.out.keep (fun b hb => ?_)).more (by omega)), grown_set_new (grown_set_new (grown_set_new (grown_set_new HG2.out (Nat.le_refl _) _ _) (Nat.le_refl _) _ _) (Nat.le_refl _) _ _) (Nat.le_refl _) _ _⟩
        rw [Below.heap_setCell _ _ _ _ (by show b ≠ w.heap.size; omega), Below.heap_setCell _ _ _ _ (by show b ≠ w.heap.size; omega), Below.heap_setCell _ _ _ _ (by show b ≠ w.heap.size; omega), Below.heap_setCell _ _ _ _ (by show b ≠ w.heap.size; omega)])
      clear hWF
      exact bodyPost_ret (v := .agg #[.int .i64 (3), .int .i64 (0), .string ByteArray.empty, .slice none 0 0]) (by simp [results, Tryz.results21, go_sem, zz0, zz1, zz2, zz3]) rfl ⟨_, _, _, rfl, by decide, HFIN.out.1, HFIN.out.2⟩
    ·
      go_wp2
      generalize hWF : (((w2.setCell _ _).setCell _ _).setCell _ _).setCell _ _ = WF
      obtain ⟨zz0, zz1, zz2, zz3⟩ := box4_set HX.out _ _ _ _ hWF
      have HFIN : Hid (TapeOk WF sb (K + 2) ∧ w.grownBy WF (some sb)) := Lib.hid (by
        subst hWF
        refine ⟨((HT2.out.keep (fun b hb => ?_)).more (by omega)), grown_set_new (grown_set_new (grown_set_new (grown_set_new HG2.out (Nat.le_refl _) _ _) (Nat.le_refl _) _ _) (Nat.le_refl _) _ _) (Nat.le_refl _) _ _⟩
        rw [Below.heap_setCell _ _ _ _ (by show b ≠ w.heap.size; omega), Below.heap_setCell _ _ _ _ (by show b ≠ w.heap.size; omega), Below.heap_setCell _ _ _ _ (by show b ≠ w.heap.size; omega), Below.heap_setCell _ _ _ _ (by show b ≠ w.heap.size; omega)])
      clear hWF
      exact bodyPost_ret (v := .agg #[.int .i64 (3), .int .i64 (0), .string (ByteArray.extract ⟨#[97, 98]⟩ 0 1), .slice none 0 0]) (by simp [results, Tryz.results21, go_sem, zz0, zz1, zz2, zz3]) rfl ⟨_, _, _, rfl, by decide, HFIN.out.1, HFIN.out.2⟩
    ·
      go_wp2
      generalize hWF : (((w2.setCell _ _).setCell _ _).setCell _ _).setCell _ _ = WF
      obtain ⟨zz0, zz1, zz2, zz3⟩ := box4_set HX.out _ _ _ _ hWF
      have HFIN : Hid (TapeOk WF sb (K + 2) ∧ w.grownBy WF (some sb)) := Lib.hid (by
        subst hWF
        refine ⟨((HT2.out.keep (fun b hb => ?_)).more (by omega)), grown_set_new (grown_set_new (grown_set_new (grown_set_new HG2.out (Nat.le_refl _) _ _) (Nat.le_refl _) _ _) (Nat.le_refl _) _ _) (Nat.le_refl _) _ _⟩
        rw [Below.heap_setCell _ _ _ _ (by show b ≠ w.heap.size; omega), Below.heap_setCell _ _ _ _ (by show b ≠ w.heap.size; omega), Below.heap_setCell _ _ _ _ (by show b ≠ w.heap.size; omega), Below.heap_setCell _ _ _ _ (by show b ≠ w.heap.size; omega)])
      clear hWF
      exact bodyPost_ret (v := .agg #[.int .i64 (3), .int .i64 (0), .string (ByteArray.extract ⟨#[97, 98]⟩ 0 2), .slice none 0 0]) (by simp [results, Tryz.results21, go_sem, zz0, zz1, zz2, zz3]) rfl ⟨_, _, _, rfl, by decide, HFIN.out.1, HFIN.out.2⟩
  ·
    go_wp2_with fail
    refine (HN.out (4611686018427387904) w1 HT1.out (by omega) (by omega)).mono ?_
    rintro e w2 ⟨y, rfl, hy0, hy1, ht2, hg2⟩
    have HT2 := Lib.hid ht2
    have HG2 := Lib.hid (grown_trans HG1.out hg2)
    have HX2 : Hid (w2.heap[w.heap.size]? = some (.cells #[.int .i64 0, .int .i64 0, .string ⟨#[]⟩, .slice none 0 0] 36 (0, 0))) := Lib.hid ((hg2.block w.heap.size (by omega) (by simp; omega)).trans HX.out)
    have hz2 := hg2.size
    clear HX HT1 HG1 ht2 hg2 hf hc hr0 hr1
    have HX := HX2
    clear HX2
    have hf : ∀ i, w2.frozen? ⟨w.heap.size, i, none⟩ = false := fun i => by simp [World.frozen?, HX.out]
    have hc : ∀ i, w2.cell? ⟨w.heap.size, i, none⟩ = (#[.int .i64 0, .int .i64 0, .string ⟨#[]⟩, .slice none 0 0] : Array Value)[i]? := fun i => cell_of_row _ _ _ _ _ _ HX.out
    go_wp2
    generalize hWF : (((w2.setCell _ _).setCell _ _).setCell _ _).setCell _ _ = WF
    obtain ⟨zz0, zz1, zz2, zz3⟩ := box4_set HX.out _ _ _ _ hWF
    have HFIN : Hid (TapeOk WF sb (K + 2) ∧ w.grownBy WF (some sb)) := Lib.hid (by
      subst hWF
      refine ⟨((HT2.out.keep (fun b hb => ?_)).more (by omega)), grown_set_new (grown_set_new (grown_set_new (grown_set_new HG2.out (Nat.le_refl _) _ _) (Nat.le_refl _) _ _) (Nat.le_refl _) _ _) (Nat.le_refl _) _ _⟩
      rw [Below.heap_setCell _ _ _ _ (by show b ≠ w.heap.size; omega), Below.heap_setCell _ _ _ _ (by show b ≠ w.heap.size; omega), Below.heap_setCell _ _ _ _ (by show b ≠ w.heap.size; omega), Below.heap_setCell _ _ _ _ (by show b ≠ w.heap.size; omega)])
    clear hWF
    exact bodyPost_ret (v := .agg #[.int .i64 (1), .int .i64 (wrap64 (y * 3)), .string ⟨#[]⟩, .slice none 0 0]) (by simp [results, Tryz.results21, go_sem, zz0, zz1, zz2, zz3]) rfl ⟨_, _, _, rfl, by decide, HFIN.out.1, HFIN.out.2⟩
  · have k0 := beq_f (a := r) (b := 0) (by omega)
    have k1 := beq_f (a := r) (b := 1) (by omega)
    have k2 := beq_f (a := r) (b := 2) (by omega)
    have k3 := beq_f (a := r) (b := 3) (by omega)
    go_wp2
    generalize hWF : (((w1.setCell _ _).setCell _ _).setCell _ _).setCell _ _ = WF
    obtain ⟨zz0, zz1, zz2, zz3⟩ := box4_set HX.out _ _ _ _ hWF
    have HFIN : Hid (TapeOk WF sb (K + 2) ∧ w.grownBy WF (some sb)) := Lib.hid (by
      subst hWF
      refine ⟨((HT1.out.keep (fun b hb => ?_)).more (by omega)), grown_set_new (grown_set_new (grown_set_new (grown_set_new HG1.out (Nat.le_refl _) _ _) (Nat.le_refl _) _ _) (Nat.le_refl _) _ _) (Nat.le_refl _) _ _⟩
      rw [Below.heap_setCell _ _ _ _ (by show b ≠ w.heap.size; omega), Below.heap_setCell _ _ _ _ (by show b ≠ w.heap.size; omega), Below.heap_setCell _ _ _ _ (by show b ≠ w.heap.size; omega), Below.heap_setCell _ _ _ _ (by show b ≠ w.heap.size; omega)])
    clear hWF
    exact bodyPost_ret (v := .agg #[.int .i64 (0), .int .i64 (0), .string ⟨#[]⟩, .slice none 0 0]) (by simp [results, Tryz.results21, go_sem, zz0, zz1, zz2, zz3]) rfl ⟨_, _, _, rfl, by decide, HFIN.out.1, HFIN.out.2⟩
end Go.Proofs.YtdjldmpfginkdaaGreatDoor
namespace Go.Proofs.YtdjldmpfginkdaaGreatDoor
open Go.RowKit
attribute [local go_sem ↓] Go.wp_at_zero Go.wp_at_succ

theorem c_Within (v lo hi : Int) (w : World) (h0 : 0 ≤ lo) (h1 : lo ≤ hi) (h2 : hi ≤ 2 ^ 40) :
    Calls Tryz.prog 8 #[.int .i64 v, .int .i64 lo, .int .i64 hi] w fun e w' => ∃ y, e = .returned (.int .i64 y) ∧ lo ≤ y ∧ y ≤ hi ∧ w' = w := by
  by_cases he : hi ≤ lo
  · go_enter Tryz.func8, Tryz.ntmps8
    go_wp2
    go_ret
    exact ⟨lo, rfl, by omega, by omega, rfl⟩
  obtain ⟨m, hm⟩ : ∃ m, hi - lo + 1 = m := ⟨_, rfl⟩
  have hz : (m == 0) = false := by rw [beq_eq_false_iff_ne]; omega
  have hz2 : ¬ m = 0 := by omega
  have hr := tmod_rng (a := v) (m := m) (by omega)
  have hlt : lo < hi := by omega
  have k1 : IntKind.i64.wrap (hi - lo) = hi - lo := IntWalk.i64_in _ (by omega)
  have k2 : IntKind.i64.wrap (hi - lo + 1) = m := by rw [hm]; exact IntWalk.i64_in _ (by omega)
  by_cases hneg : v.tmod m < 0
  · go_enter Tryz.func8, Tryz.ntmps8
    go_wp2
    go_ret
    exact ⟨_, rfl, by omega, by omega, rfl⟩
  · go_enter Tryz.func8, Tryz.ntmps8
    go_wp2
    go_ret
    exact ⟨_, rfl, by omega, by omega, rfl⟩
end Go.Proofs.YtdjldmpfginkdaaGreatDoor
