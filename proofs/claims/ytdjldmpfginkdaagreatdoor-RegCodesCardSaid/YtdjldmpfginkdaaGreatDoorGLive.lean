/- Contract of regcode.Liveness.
  Contracts of regcode.PointerMaps, Successors. -/
import Derived.Test.YtdjldmpfginkdaaGreatDoorGUses
import Derived.Test.YtdjldmpfginkdaaGreatDoorGVal
import Derived.Test.YtdjldmpfginkdaaGreatDoorGRegD
import Derived.Deep.CutRange
import Derived.Lib.LazyBuf
namespace Go.Proofs.YtdjldmpfginkdaaGreatDoor
open Go.RowKit
attribute [local go_sem ↓] Go.wp_at_zero Go.wp_at_succ

open Classical in
/-- The registers that are live before instruction i. -/
noncomputable def Rc.live (r : Rc) (i : Nat) : List Int := ((List.range r.classes.length).filter fun k => decide (LiveP r i k)).map fun (k : Nat) => (k : Int)
noncomputable def Rc.lives (r : Rc) : List (List Int) := (List.range r.instrs.length).map r.live
/-- What holds between the operations: the box of the code, the matrix. -/
structure Lv (w : World) (u0 u1 u2 u3 : Value) (b0 n m : Nat) (M : Nat → Nat → Bool) (W : World) : Prop where
  bx : Bx w u0 u1 u2 u3 W
  mat : Mat b0 n m M W
  le : w.heap.size < b0
section
variable {w W W' : World} {u0 u1 u2 u3 : Value} {b0 n m : Nat} {M : Nat → Nat → Bool}
theorem Bx.set (h : Bx w u0 u1 u2 u3 W) {b : Nat} (hb : w.heap.size < b) (i : Nat) (u : Value) : Bx w u0 u1 u2 u3 (W.setCell ⟨b, i, none⟩ u) := by
  obtain ⟨⟨b0, b1, b2, b3⟩, hbw, hl⟩ := h
  have hk : (W.setCell ⟨b, i, none⟩ u).heap[w.heap.size]? = W.heap[w.heap.size]? := Below.heap_setCell _ _ _ _ (by show w.heap.size ≠ b; omega)
  have hc : ∀ (j : Nat), (W.setCell ⟨b, i, none⟩ u).cell? ⟨w.heap.size, j, none⟩ = W.cell? ⟨w.heap.size, j, none⟩ := fun j => World.cell?_of_block (w := W) hk
  exact ⟨⟨(hc _).trans b0, (hc _).trans b1, (hc _).trans b2, (hc _).trans b3⟩, below_set hbw (by omega) _ _, by simp [World.setCell]; exact hl⟩
theorem Lv.step (h : Lv w u0 u1 u2 u3 b0 n m M W) (hb : Below W.heap.size W W') : Lv w u0 u1 u2 u3 b0 n m M W' := ⟨h.bx.step hb, h.mat.below hb, h.le⟩
theorem Lv.set (h : Lv w u0 u1 u2 u3 b0 n m M W) {b : Nat} (hb : b0 + n < b) (i : Nat) (u : Value) : Lv w u0 u1 u2 u3 b0 n m M (W.setCell ⟨b, i, none⟩ u) :=
  ⟨h.bx.set (by have := h.le; omega) i u, h.mat.keep (fun c hc => Below.heap_setCell _ _ _ _ (by show c ≠ b; omega)) (by simp [World.setCell]), h.le⟩
theorem Lv.upd (h : Lv w u0 u1 u2 u3 b0 n m M W) {i : Nat} (hi : i < n) (k : Nat) : Lv w u0 u1 u2 u3 b0 n m (upd2 M i k) (W.setCell ⟨b0 + 1 + i, k, none⟩ (.bool true)) :=
  ⟨h.bx.set (by have := h.le; omega) k _, h.mat.set hi k, h.le⟩
theorem Lv.grown {row : Option Nat} (h : Lv w u0 u1 u2 u3 b0 n m M W) (hg : W.grownBy W' row) (hr : ∀ k, row = some k → b0 + n < k) : Lv w u0 u1 u2 u3 b0 n m M W' := by
  have hk : ∀ b, b ≤ b0 + n → W'.heap[b]? = W.heap[b]? := fun b hb => hg.block b (by have := h.mat.lt; omega) (fun e => by have := hr b e.symm; omega)
  refine ⟨?_, h.mat.keep hk hg.size, h.le⟩
  obtain ⟨⟨c0, c1, c2, c3⟩, hbw, hl⟩ := h.bx
  have hc : ∀ (j : Nat), W'.cell? ⟨w.heap.size, j, none⟩ = W.cell? ⟨w.heap.size, j, none⟩ := fun j => World.cell?_of_block (w := W) (hk _ (by have := h.le; show w.heap.size ≤ _; omega))
  exact ⟨⟨(hc _).trans c0, (hc _).trans c1, (hc _).trans c2, (hc _).trans c3⟩, hbw.grown hg hbw.size (fun k e => by have := hr k e; have := h.le; omega), Nat.lt_of_lt_of_le hl hg.size⟩
end
/-- The matrix as the world holds it. -/
def matOf (b0 : Nat) (W : World) (i k : Nat) : Bool := match W.cell? ⟨b0 + 1 + i, k, none⟩ with
  | some (.bool true) => true
  | _ => false
theorem offs_congr {n m : Nat} {M M' : Nat → Nat → Bool} (h : ∀ i k, i < n → k < m → M i k = M' i k) : offs n m M = offs n m M' := Sm_congr fun i hi => Sm_congr fun k hk => by rw [h i k hi hk]
theorem Mat.offs {b0 n m : Nat} {M : Nat → Nat → Bool} {W : World} (h : Mat b0 n m M W) : Go.Proofs.YtdjldmpfginkdaaGreatDoor.offs n m (matOf b0 W) = Go.Proofs.YtdjldmpfginkdaaGreatDoor.offs n m M := offs_congr fun i k hi hk => by
  unfold matOf
  rw [h.ent_ hi hk]
  cases M i k <;> rfl
/-- A row that is read, in blocks from lo on. -/
def Valr (A : Option Addr) (lo : Nat) (ys : List Int) (W : World) : Prop := ys.length = 0 ∨ ∃ g, A = some ⟨g, 0, none⟩ ∧ lo ≤ g ∧ g < W.heap.size ∧ ∀ (j : Nat) (hj : j < ys.length), W.cell? ⟨g, j, none⟩ = some (.int .i64 ys[j])
theorem Valr.of {W : World} {base c : Nat} {A : Option Addr} {ys : List Int} (h : W.ownsRow base 3 1 (.slice A ys.length c) ys.length (ints ys)) : Valr A base ys W := by
  rcases h.2 with ⟨_, h0⟩ | ⟨g, cap, cur, hv, hg, hh, r⟩
  · exact .inl h0
  · simp only [Value.slice.injEq] at hv
    obtain ⟨rfl, _, rfl⟩ := hv
    refine .inr ⟨g, rfl, hg, (Array.getElem?_eq_some_iff.1 hh).1, fun j hj => ?_⟩
    rw [h.cellAt j (by simpa [ints] using hj)]
    simp [ints, hj]
theorem Valr.set {W : World} {A : Option Addr} {lo b : Nat} {ys : List Int} (h : Valr A lo ys W) (hb : b < lo) (i : Nat) (u : Value) : Valr A lo ys (W.setCell ⟨b, i, none⟩ u) := by
  rcases h with h | ⟨g, hA, hg, hg2, hc⟩
  · exact .inl h
  · have hk : (W.setCell ⟨b, i, none⟩ u).heap[g]? = W.heap[g]? := Below.heap_setCell _ _ _ _ (by show g ≠ b; omega)
    exact .inr ⟨g, hA, hg, by simp [World.setCell]; exact hg2, fun j hj => (World.cell?_of_block (a := ⟨g, j, none⟩) hk).trans (hc j hj)⟩
set_option maxRecDepth 100000 in
set_option maxHeartbeats 16000000 in
theorem c_Liveness (r : Rc) (cls : Value) (IA : Option Addr) (ic : Nat) (DA : Option Addr) (dc : Nat) (w : World) (B G : Nat) (hr : RcAt w B r cls IA ic) (hB : B ≤ w.heap.size) (hE : EnvS w G) (hR : EnvR w G) (hG : G ≤ w.heap.size) :
    Calls Tryz.prog 12 #[.agg #[.int .i64 r.params, cls, .slice IA r.instrs.length ic, .slice DA r.edits dc]] w fun e w' => ((¬ r.Ok ∧ e = .returned (.slice none 0 0)) ∨ (r.Ok ∧ ∃ g, e = .returned (.slice (some ⟨g, 0, none⟩) r.instrs.length r.instrs.length) ∧ IsRows w' w'.heap.size r.lives (.slice (some ⟨g, 0, none⟩) r.instrs.length r.instrs.length))) ∧ Below w.heap.size w w' := by
  have HB0 := Lib.hid (Bx.start w (.int .i64 r.params) cls (.slice IA r.instrs.length ic) (.slice DA r.edits dc))
  have HR := Lib.hid hr
  have HVAL := Lib.hid (fun (W : World) (hW : Below w.heap.size w W) => c_RegVal r cls IA ic DA dc W B G (HR.out.below hW hB) (Nat.le_trans hB hW.size) (hE.below hW hG) (hR.below hW hG) (Nat.le_trans hG hW.size))
  obtain ⟨CA, cc, rfl, _⟩ := hr.cls
  by_cases hok : r.Ok
  case neg =>
    have kv : (r.validate == 0) = false := beq_f (fun h => hok (Rc.val_ok_iff.1 h))
    have HOK := Lib.hid hok
    clear hr hE hR HR hok
    generalize r.validate = vl at *
    go_enter Tryz.func12, Tryz.ntmps12
    go_wp2_with fail
    refine (HVAL.out _ HB0.out.2.1).mono ?_
    rintro e w1 ⟨rfl, hb1⟩
    have hbz := below_step HB0.out.2.1 hb1
    clear hb1 HB0 HVAL
    go_wp2
    go_ret
    exact ⟨.inl ⟨HOK.out, rfl⟩, hbz⟩
  case pos =>
  have HOK := Lib.hid hok
  have hv0 := Rc.val_ok hok
  rw [hv0] at HVAL
  have hn20 := hok.1
  have hm10 := hok.2.1
  have HIB := Lib.hid hok.2.2.2.2.2.2.2.1
  have HSO := Lib.hid (SuccOk.of HIB.out hok.2.2.2.2.2.2.2.2.1)
  have HRG := Lib.hid (fun (x : Ins) (hx : x ∈ r.instrs) => ok_regs (HIB.out x hx))
  clear hr hok hv0 hR
  obtain ⟨i0, hi0, hz0, hz1, hz2⟩ := info_parts info_int
  have HI : Hid (i0.zero = some (.int .i64 0) ∧ i0.size = 1 ∧ i0.bytes = 8) := Lib.hid ⟨hz0, hz1, hz2⟩
  have Hi0 := Lib.hid hi0
  clear hi0 hz0 hz1 hz2
  have HIN := Lib.hid (fun (W : World) (hW : Below w.heap.size w W) (k : Nat) (hk : k < r.instrs.length) => HR.out.at_ (w' := W) (fun b hb => hW.block b (by omega)) hk)
  have HSU : Hid (∀ (W : World) (_ : Below w.heap.size w W) (i : Nat) (_ : i < r.instrs.length), Calls Tryz.prog 29 #[.agg #[.int .i64 r.params, .slice CA r.classes.length cc, .slice IA r.instrs.length ic, .slice DA r.edits dc], .int .i64 i] W (RetRow ((r.succ i).map fun (q : Nat) => (q : Int)) W)) := Lib.hid (fun W hW i hi => by
    have := c_successorsR (.int .i64 r.params) (.slice CA r.classes.length cc) (.slice DA r.edits dc) r.instrs _ i W B (HR.out.ins.below hW hB) (Nat.le_trans hB hW.size) hi (by omega)
    rw [(HSO.out i hi).1] at this
    exact this)
  have HSL := Lib.hid (fun (i : Nat) (hi : i < r.instrs.length) => (HSO.out i hi).2)
  have HDEF := Lib.hid (fun (W : World) (hW : Below w.heap.size w W) (op dst imm : Int) (u2 u3 u5 u6 u7 u8 u9 u10 u11 u12 u13 u14 : Value) => c_Def op dst imm u2 u3 u5 u6 u7 u8 u9 u10 u11 u12 u13 u14 W G (hE.below hW hG) (Nat.le_trans hG hW.size))
  have HUSE := Lib.hid (fun (W : World) (hW : Below w.heap.size w W) (x : Ins) (A : Option Addr) (c : Nat) (TA : Option Addr) (tc : Nat) (EA : Option Addr) (ec : Nat) (hx : IsInts W B x.args (.slice A x.args.length c)) (ha : x.args.length ≤ 2 ^ 39) => c_Uses x A c TA tc EA ec W B G hx (Nat.le_trans hB hW.size) ha (hE.below hW hG) (Nat.le_trans hG hW.size))
  have HAL := Lib.hid (fun (x : Ins) (hx : x ∈ r.instrs) => (insB_args (HIB.out x hx)).2)
  have HLE := Lib.hid r.succ_le
  have hmk1 := fun (W : World) => made_boolrows W r.instrs.length (by omega)
  have hmk2 := fun (W : World) => made_bools W r.classes.length (by omega)
  have hmk3 := fun (W : World) => made_introws W r.instrs.length (by omega)
  go_enter Tryz.func12, Tryz.ntmps12
  go_wp2_with fail
  refine (HVAL.out _ HB0.out.2.1).mono ?_
  rintro e w1 ⟨rfl, hb1⟩
  have HB1 := Lib.hid (HB0.out.step hb1)
  have hw1 : w.heap.size < w1.heap.size := HB1.out.2.2
  clear hb1 HB0 HVAL
  obtain ⟨b0, b1, b2, b3⟩ := HB1.out.1
  go_wp2
  clear b0 b1 b2 b3
  generalize hW0 : w1.alloc _ = W0
  have HB2 : Hid (Bx w (.int .i64 r.params) (.slice CA r.classes.length cc) (.slice IA r.instrs.length ic) (.slice DA r.edits dc) W0) := Lib.hid (by rw [← hW0]; exact HB1.out.step (below_new _ _))
  have HM : Hid (MatTo w1.heap.size r.instrs.length r.classes.length 0 W0) := Lib.hid (by rw [← hW0]; exact MatTo.start w1 _ _)
  generalize w1.heap.size = b0 at *
  clear hW0 HB1
  go_loopw [32] (fun s wr => ∃ k : Nat, k ≤ r.instrs.length ∧ s = .int .i64 k ∧ Hid (MatTo b0 r.instrs.length r.classes.length k wr) ∧ Hid (Bx w (.int .i64 r.params) (.slice CA r.classes.length cc) (.slice IA r.instrs.length ic) (.slice DA r.edits dc) wr)) (fun s _ => r.instrs.length - (intOf s).toNat)
  case atStart => exact ⟨0, by omega, rfl, HM, HB2⟩
  case round =>
    clear HM HB2
    obtain ⟨k, hk, rfl, HM, HB⟩ := hrel
    obtain ⟨c0, c1, c2, c3⟩ := HB.out.1
    have hck : wr.frozen? ⟨b0, k, none⟩ = false := HM.out.row.free k
    by_cases hkn : k < r.instrs.length
    · have hk0 : (0 : Int) ≤ (k : Int) := by omega
      have hk1 : (k : Int) < (r.instrs.length : Int) := by omega
      have hcc := HM.out.row.cell (tabV_get hkn)
      have hlt : b0 < wr.heap.size := by have := HM.out.sz; omega
      have HM2 : Hid (MatTo b0 r.instrs.length r.classes.length (k + 1) ((wr.setCell ⟨b0, k, none⟩ (.slice (some ⟨wr.heap.size, 0, none⟩) r.classes.length r.classes.length)).alloc (.cells (Array.replicate r.classes.length (.bool false)) 4))) := Lib.hid (by
        rw [← World.setCell_alloc_past _ _ _ _ hlt]
        exact HM.out.step)
      have hsz : b0 < wr.heap.size := by have := HM.out.sz; omega
      have HB2 := Lib.hid ((HB.out.set hw1 k (.slice (some ⟨wr.heap.size, 0, none⟩) r.classes.length r.classes.length)).step (below_new _ (.cells (Array.replicate r.classes.length (.bool false)) 4)))
      go_wp2
      go_roundw
      case rel => exact ⟨k + 1, by omega, by go_num, HM2, HB2⟩
      case measure => simp [intOf]; omega
    · obtain rfl : r.instrs.length = k := by omega
      have HL : Hid (Lv w (.int .i64 r.params) (.slice CA r.classes.length cc) (.slice IA r.instrs.length ic) (.slice DA r.edits dc) b0 r.instrs.length r.classes.length (fun _ _ => false) wr) := Lib.hid ⟨HB.out, HM.out.done, hw1⟩
      have HS0 : Hid (Sound r fun _ _ => false) := Lib.hid (fun _ _ _ _ h => by cases h)
      clear HM HB hck hmk1 c0 c1 c2 c3
      generalize hn : r.instrs.length = n at *
      generalize hm : r.classes.length = m at *
      have HN := Lib.hid hn
      have HMM := Lib.hid hm
      clear hn hm
      go_wp2
      obtain ⟨wp, rfl⟩ : ∃ wp : World, wp = wr := ⟨_, rfl⟩
      go_loopw [5] (fun cv wr => ∃ (M : Nat → Nat → Bool) (b : Bool), cv = .bool b ∧ Hid (Sound r M) ∧ Hid (b = false → ∀ i, i < r.instrs.length → ClosedAt r M i) ∧ Hid (Lv w (.int .i64 r.params) (.slice CA m cc) (.slice IA n ic) (.slice DA r.edits dc) b0 n m M wr)) (fun cv wr => 2 * offs n m (matOf b0 wr) + bitN cv)
      case atStart => exact ⟨_, true, rfl, HS0, Lib.hid (by simp), HL⟩
      case round =>
        clear HS0 HL
        obtain ⟨M, b, rfl, HS, HC, HL⟩ := hrel
        obtain ⟨c0, c1, c2, c3⟩ := HL.out.bx.1
        cases b
        · have HTB : Hid (∀ k, k < n → ((List.range m).filter (M k)).map (fun (q : Nat) => (q : Int)) = r.live k) := Lib.hid (fun k hk => by
            unfold Rc.live
            rw [HMM.out]
            congr 1
            refine List.filter_congr fun a ha => ?_
            have ha' : a < m := List.mem_range.1 ha
            have := table_eq (fun i hi b hb => by rw [HN.out] at hi ⊢; exact HSL.out i hi b hb) HS.out (HC.out rfl) (i := k) (k := a) (by rw [HN.out]; exact hk) (by rw [HMM.out]; exact ha')
            rw [Bool.eq_iff_iff, this]
            simp)
          have hLw := HL.out.mat.lt
          have HLo := Lib.hid (HL.out.step (below_new wr (.cells (Array.replicate n (.slice none 0 0)) 22)))
          have HOo := Lib.hid (Outs.start wr n r.live (fun _ => .slice none 0 0))
          clear HS HC
          go_wp2
          clear c0 c1 c2 c3
          generalize hWo : wr.alloc _ = wo at HLo HOo
          have hlo : wr.heap.size + 1 ≤ wo.heap.size := by rw [← hWo]; simp
          clear hWo HL
          generalize wr.heap.size = bo at *
          go_loopw [145] (fun s wr => ∃ (k Lk : Nat) (vs : Nat → Value), k ≤ n ∧ s = .int .i64 k ∧ Hid (Outs bo n k Lk r.live vs (.slice none 0 0) wr) ∧ Hid (Lv w (.int .i64 r.params) (.slice CA m cc) (.slice IA n ic) (.slice DA r.edits dc) b0 n m M wr) ∧ Lk ≤ wr.heap.size) (fun s _ => n - (intOf s).toNat)
          case atStart => exact ⟨0, _, _, by omega, rfl, HOo, HLo, hlo⟩
          case round =>
            clear HOo HLo hlo
            obtain ⟨k, Lk, vs, hk, rfl, HO, HL, hlk⟩ := hrel
            have hk0 : (0 : Int) ≤ (k : Int) := by omega
            by_cases hkn : k < n
            · have hk1 : (k : Int) < (n : Int) := by omega
              have hra := HL.out.mat.rowAt hkn
              have hLb := HO.out.lt
              have HTK := Lib.hid (HTB.out k hkn)
              go_wp2
              clear hra
              obtain ⟨w9, rfl⟩ : ∃ w9 : World, w9 = wr := ⟨_, rfl⟩
              go_loopw [152] (fun s wr => ∃ (i : Nat) (v : Value), i ≤ m ∧ s = .int .i64 i ∧ Hid (Outs bo n k Lk r.live vs v wr) ∧ Hid (wr.ownsRow Lk 3 1 v (((List.range i).filter (M k)).map fun (q : Nat) => (q : Int)).length (ints (((List.range i).filter (M k)).map fun (q : Nat) => (q : Int)))) ∧ Hid (Lv w (.int .i64 r.params) (.slice CA m cc) (.slice IA n ic) (.slice DA r.edits dc) b0 n m M wr) ∧ Lk ≤ wr.heap.size) (fun s _ => m - (intOf s).toNat)
              case atStart => exact ⟨0, _, by omega, rfl, HO, Lib.hid (World.ownsRow_nil _ _ _ _), HL, hlk⟩
              case round =>
                clear HO HL hlk
                obtain ⟨i, v, hi, rfl, HO, HOW, HL, hlk⟩ := hrel
                have hi0' : (0 : Int) ≤ (i : Int) := by omega
                by_cases him : i < m
                · have hi1 : (i : Int) < (m : Int) := by omega
                  have hce := HL.out.mat.ent_ hkn him
                  cases hmk : M k i
                  · have HE : Hid (((List.range (i + 1)).filter (M k)).map (fun (q : Nat) => (q : Int)) = ((List.range i).filter (M k)).map (fun (q : Nat) => (q : Int))) := Lib.hid (by
                      rw [List.range_succ, List.filter_append]
                      simp [hmk])
                    rw [hmk] at hce
                    clear hmk
                    go_wp2
                    go_roundw
                    case rel => exact ⟨i + 1, v, by omega, by go_num, HO, by rw [HE.out]; exact HOW, HL, hlk⟩
                    case measure => simp [intOf]; omega
                  · have HE : Hid (((List.range (i + 1)).filter (M k)).map (fun (q : Nat) => (q : Int)) = ((List.range i).filter (M k)).map (fun (q : Nat) => (q : Int)) ++ [(i : Int)]) := Lib.hid (by
                      rw [List.range_succ, List.filter_append, List.map_append]
                      simp [hmk])
                    rw [hmk] at hce
                    clear hmk
                    have hle : (((List.range i).filter (M k)).map fun (q : Nat) => (q : Int)).length ≤ i := by
                      have := List.length_filter_le (M k) (List.range i)
                      simpa using this
                    generalize ((List.range i).filter (M k)).map (fun (q : Nat) => (q : Int)) = ol at *
                    have hog := HO.out.get hkn
                    go_wp2_with (first
                      | (at_builtin; refine wpList_append_rd _ rfl (.tmp 163) (.tmp 165) 22 rfl Lk 3 i0 (.int .i64 0) 1 8 Tryz.underlying22 Hi0.out HI.out.1 HI.out.2.1 HI.out.2.2 rfl (by omega) v ol.length (ints ol) rfl (HOW.out.alloc _) (wr.heap.size + 1) (some ⟨wr.heap.size, 0, none⟩) 1 1 [.int .i64 i] rfl (Rd.blk (cs := #[.int .i64 i]) (blk_new _ _) rfl (by omega)) (by simp [Value.oneCell']) (by omega) (by simp; omega) ?_
                         intro v5 w5 hown5 hg5 hat5
                         obtain ⟨A5, d5, rfl⟩ := own_form hown5
                         have HO5 := Lib.hid ((HO.out.alloc (.cells #[.int .i64 i] 3)).grown hg5 (own_ge HOW.out))
                         have HL5 := Lib.hid ((HL.out.step (below_new wr (.cells #[.int .i64 i] 3))).grown hg5 (fun g e => by have := own_ge HOW.out g e; omega))
                         have hlk5 : Lk ≤ w5.heap.size := Nat.le_trans hlk (Nat.le_trans (by simp) hg5.size)
                         have hog5 := HO5.out.get hkn
                         have hfo5 : w5.frozen? ⟨bo, k, none⟩ = false := RowV.free HO5.out.row k
                         have HO6 := Lib.hid (HO5.out.set (.slice A5 (ol.length + 1) d5))
                         have HL6 := Lib.hid (HL5.out.set (b := bo) (by omega) k (.slice A5 (ol.length + 1) d5))
                         have HOW6 := Lib.hid (own_set hown5 (b := bo) (by omega) k (.slice A5 (ol.length + 1) d5))
                         clear hown5 hg5 hat5 HO HL HOW hog))
                    go_roundw
                    case rel => exact ⟨i + 1, _, by omega, by go_num, HO6, by rw [HE.out]; exact Lib.hid (by simpa [ints] using HOW6.out), HL6, by simpa [World.setCell] using hlk5⟩
                    case measure => simp [intOf]; omega
                · obtain rfl : m = i := by omega
                  have HO2 := Lib.hid (HO.out.next (by rw [← HTK.out]; exact HOW.out))
                  clear HO HOW
                  go_wp2
                  go_roundw
                  case rel => exact ⟨k + 1, _, _, by omega, by go_num, HO2, HL, Nat.le_refl _⟩
                  case measure => simp [intOf]; omega
            · obtain rfl : n = k := by omega
              have HD := Lib.hid (HO.out.done (by omega))
              have hbz := HL.out.bx.2.1
              obtain ⟨c0, c1, c2, c3⟩ := HL.out.bx.1
              clear HO HL
              go_wp2
              go_ret
              exact ⟨.inr ⟨HOK.out, bo, congrArg (fun q : Nat => Ending.returned (.slice (some ⟨bo, 0, none⟩) q q)) HN.out.symm, by unfold Rc.lives; rw [HN.out]; exact HD.out⟩, hbz⟩
        · have hsub : IntKind.i64.wrap ((n : Int) - 1) = (n : Int) - 1 := IntWalk.i64_in _ (by omega)
          have HPS := Lib.hid (LPass.start HS.out)
          rw [HN.out, HMM.out] at HPS
          clear HC HS
          generalize hF : offs n m M = F0 at HPS
          have HF := Lib.hid hF
          clear hF
          go_wp2
          obtain ⟨wq, rfl⟩ : ∃ wq : World, wq = wr := ⟨_, rfl⟩
          clear c0 c1 c2 c3
          go_loopw [5, 6] (fun cv ix wr => ∃ (k : Nat) (z : Int) (M : Nat → Nat → Bool) (b : Bool), k ≤ n ∧ z + 1 = k ∧ ix = .int .i64 z ∧ cv = .bool b ∧ Hid (LPass r F0 k b M) ∧ Hid (Lv w (.int .i64 r.params) (.slice CA m cc) (.slice IA n ic) (.slice DA r.edits dc) b0 n m M wr)) (fun _ ix _ => (intOf ix + 1).toNat)
          case atStart => exact ⟨n, _, M, false, by omega, by omega, rfl, rfl, HPS, HL⟩
          case round =>
            clear HPS
            obtain ⟨k, z, M1, b, hk, hz, rfl, rfl, HP, HL1⟩ := hrel
            cases k with
            | zero =>
              obtain rfl : z = -1 := by omega
              have HM : Hid (2 * offs n m (matOf b0 wr) + bitN (.bool b) < 2 * offs n m (matOf b0 wq) + bitN (.bool true)) := Lib.hid (by
                rw [HL1.out.mat.offs, HL.out.mat.offs, HF.out]
                have h1 := HP.out.yes
                have h2 := HP.out.no
                rw [HN.out, HMM.out] at h1 h2
                cases b
                · have := (h2 rfl).1
                  simp only [bitN]
                  omega
                · have := h1 rfl
                  simp only [bitN]
                  omega)
              have HC2 : Hid (b = false → ∀ i, i < r.instrs.length → ClosedAt r M1 i) := Lib.hid (fun hb i hi => (HP.out.no hb).2 i (by omega) hi)
              have HS2 := Lib.hid HP.out.sound
              clear HP
              go_wp2
              go_roundw
              case rel => exact ⟨M1, b, rfl, HS2, HC2, HL1⟩
              case measure => simpa [intOf] using HM.out
            | succ j =>
              obtain rfl : z = (j : Int) := by omega
              have hjn : j < n := by omega
              have hj0 : (0 : Int) ≤ (j : Int) := by omega
              have hj1 : (j : Int) < (n : Int) := by omega
              have hjs : IntKind.i64.wrap ((j : Int) - 1) = (j : Int) - 1 := IntWalk.i64_in _ (by omega)
              have hbx := HL1.out.bx
              obtain ⟨c0, c1, c2, c3⟩ := hbx.1
              have hbn0 : b0 + n < wr.heap.size := HL1.out.mat.lt
              have hwsz : w.heap.size < wr.heap.size := hbx.2.2
              have HLa := Lib.hid (HL1.out.step (below_new wr (.cells (Array.replicate m (.bool false)) 4)))
              have HRa := Lib.hid (RowB.new wr m)
              clear hbx
              go_wp2_with fail
              clear c0 c1 c2 c3
              generalize hWa : wr.alloc _ = wa at HLa HRa
              have hbn1 : wr.heap.size < wa.heap.size := by rw [← hWa]; simp
              clear hWa HL1
              generalize wr.heap.size = bn at *
              refine (HSU.out wa HLa.out.bx.2.1 j hjn).mono ?_
              rintro e w2 ⟨v2, rfl, hres, hb2⟩
              obtain ⟨A2, d2, rfl, hed⟩ := hres.form
              have HED : Hid (Edg A2 wa.heap.size w2.heap.size ((r.succ j).map fun (q : Nat) => (q : Int)) w2) := Lib.hid (Edg.made hed)
              have HLb := Lib.hid (HLa.out.step hb2)
              have HRb := Lib.hid (HRa.out.below hb2)
              have hsz2 := hb2.size
              clear hres hed hb2 HLa HRa
              generalize hL : wa.heap.size = L at *
              generalize hL2 : w2.heap.size = L2 at *
              have hle2 : L2 ≤ w2.heap.size := Nat.le_of_eq hL2.symm
              clear hL hL2
              rw [List.length_map]
              generalize hml : (r.succ j).length = m2 at *
              have HML := Lib.hid hml
              have hm2 : m2 ≤ 2 := by rw [← hml]; exact HLE.out j
              clear hml
              go_wp2
              obtain ⟨w3, rfl⟩ : ∃ w3 : World, w3 = w2 := ⟨_, rfl⟩
              go_loopw [60] (fun s wr => ∃ q : Nat, q ≤ m2 ∧ s = .int .i64 q ∧ Hid (RowB wr bn m (fun k => ((r.succ j).take q).any fun a => M1 a k)) ∧ Hid (Lv w (.int .i64 r.params) (.slice CA m cc) (.slice IA n ic) (.slice DA r.edits dc) b0 n m M1 wr) ∧ Hid (Edg A2 L L2 ((r.succ j).map fun (q : Nat) => (q : Int)) wr) ∧ L2 ≤ wr.heap.size) (fun s _ => m2 - (intOf s).toNat)
              case atStart => exact ⟨0, by omega, rfl, by simpa using HRb, HLb, HED, hle2⟩
              case round =>
                clear HRb HLb HED hle2
                obtain ⟨q, hq, rfl, HR4, HL4, HED, hL2⟩ := hrel
                have hq0 : (0 : Int) ≤ (q : Int) := by omega
                by_cases hqm : q < m2
                · have hq1 : (q : Int) < (m2 : Int) := by omega
                  have hql : q < (r.succ j).length := by rw [HML.out]; exact hqm
                  obtain ⟨g2, rfl, hg2, hcell⟩ := HED.out.get hql
                  have han := HSL.out j hjn _ (List.getElem_mem hql)
                  have HTK : Hid (∀ k, ((r.succ j).take (q + 1)).any (fun a => M1 a k) = (((r.succ j).take q).any (fun a => M1 a k) || M1 (r.succ j)[q] k)) := Lib.hid (fun k => by
                    rw [List.take_succ_eq_append_getElem hql, List.any_append]
                    simp)
                  have hra := HL4.out.mat.rowAt han
                  generalize (r.succ j)[q] = a at *
                  have ha0 : (0 : Int) ≤ (a : Int) := by omega
                  have ha1 : (a : Int) < (n : Int) := by omega
                  generalize hf : (fun k => ((r.succ j).take q).any fun a => M1 a k) = f at HR4
                  have HF5 : Hid (∀ k, ((r.succ j).take (q + 1)).any (fun a => M1 a k) = (f k || M1 a k)) := Lib.hid (fun k => by rw [HTK.out k, ← hf])
                  clear hf HTK
                  go_wp2
                  clear hcell hra
                  obtain ⟨w4, rfl⟩ : ∃ w4 : World, w4 = wr := ⟨_, rfl⟩
                  go_loopw [69] (fun s wr => ∃ i : Nat, i ≤ m ∧ s = .int .i64 i ∧ Hid (RowB wr bn m (fun k => f k || (decide (k < i) && M1 a k))) ∧ Hid (Lv w (.int .i64 r.params) (.slice CA m cc) (.slice IA n ic) (.slice DA r.edits dc) b0 n m M1 wr) ∧ Hid (Edg (some ⟨g2, 0, none⟩) L L2 ((r.succ j).map fun (q : Nat) => (q : Int)) wr) ∧ L2 ≤ wr.heap.size) (fun s _ => m - (intOf s).toNat)
                  case atStart => exact ⟨0, by omega, rfl, by simpa using HR4, HL4, HED, hL2⟩
                  case round =>
                    clear HR4 HL4 HED hL2
                    obtain ⟨i, hi, rfl, HR5, HL5, HED5, hL25⟩ := hrel
                    have hi0 : (0 : Int) ≤ (i : Int) := by omega
                    by_cases him : i < m
                    · have hi1 : (i : Int) < (m : Int) := by omega
                      have hcl := HL5.out.mat.ent_ han him
                      have hcn := HR5.out.cell him
                      simp only [Nat.lt_irrefl, decide_false, Bool.false_and, Bool.or_false] at hcn
                      have hfn : wr.frozen? ⟨bn, i, none⟩ = false := RowV.free HR5.out i
                      have HR6 : Hid (RowB (wr.setCell ⟨bn, i, none⟩ (.bool (f i || M1 a i))) bn m (fun k => f k || (decide (k < i + 1) && M1 a k))) := Lib.hid ((HR5.out.set i (f i || M1 a i)).congr (fun k _ => by
                        by_cases hk : k = i
                        · subst hk; simp
                        · have e : decide (k < i + 1) = decide (k < i) := by
                            rw [decide_eq_decide]; omega
                          rw [if_neg hk, e]))
                      have HL6 := Lib.hid (HL5.out.set (b := bn) (by omega) i (.bool (f i || M1 a i)))
                      have HED6 := Lib.hid (HED5.out.set (b := bn) (by omega) i (.bool (f i || M1 a i)))
                      generalize M1 a i = mb at *
                      cases hfi : f i
                      · rw [hfi] at hcn HR6 HL6 HED6
                        simp only [Bool.false_or] at HR6 HL6 HED6
                        clear hfi
                        go_wp2
                        go_roundw
                        case rel => exact ⟨i + 1, by omega, by go_num, HR6, HL6, HED6, by simpa [World.setCell] using hL25⟩
                        case measure => simp [intOf]; omega
                      · rw [hfi] at hcn HR6 HL6 HED6
                        simp only [Bool.true_or] at HR6 HL6 HED6
                        clear hfi
                        go_wp2
                        go_roundw
                        case rel => exact ⟨i + 1, by omega, by go_num, HR6, HL6, HED6, by simpa [World.setCell] using hL25⟩
                        case measure => simp [intOf]; omega
                    · obtain rfl : m = i := by omega
                      have HR6 : Hid (RowB wr bn m (fun k => ((r.succ j).take (q + 1)).any fun a => M1 a k)) := Lib.hid (HR5.out.congr (fun k hk => by rw [HF5.out k]; simp [hk]))
                      clear HR5
                      go_wp2
                      go_roundw
                      case rel => exact ⟨q + 1, by omega, by go_num, HR6, HL5, HED5, hL25⟩
                      case measure => simp [intOf]; omega
                · obtain rfl : m2 = q := by omega
                  have HR5 : Hid (RowB wr bn m (fun k => (r.succ j).any fun a => M1 a k)) := Lib.hid (by
                    have h := HR4.out
                    rw [List.take_of_length_le (by rw [HML.out]; omega)] at h
                    exact h)
                  have hbz := HL4.out.bx.2.1
                  have hmt := HL4.out.mat.lt
                  clear HR4 HED hL2 hm2
                  obtain ⟨g, o, x, hx, rfl, hg, hI⟩ := HIN.out wr hbz j hjn
                  obtain ⟨X1, e1, TX, tx, EX, ex, hcs, hia, _⟩ := hI
                  have HX := Lib.hid hx
                  have HXM : Hid (x ∈ r.instrs) := Lib.hid (List.mem_of_getElem? hx)
                  obtain ⟨h0, h1, h2, h3, h4, h5, h6, h7, h8, h9, h10, h11, h12, h13, h14⟩ := hcs
                  obtain ⟨c0, c1, c2, c3⟩ := HL4.out.bx.1
                  clear hx hia
                  go_wp2_with fail
                  refine (HDEF.out wr hbz _ _ _ _ _ _ _ _ _ _ _ _ _ _ _).mono ?_
                  rintro e w5 ⟨rfl, hb5⟩
                  have HL5 := Lib.hid (HL4.out.step hb5)
                  have HR6 := Lib.hid (HR5.out.below hb5)
                  clear h0 h1 h2 h3 h4 h5 h6 h7 h8 h9 h10 h11 h12 h13 h14 c0 c1 c2 c3 hb5 HL4 HR5
                  generalize hdv : (if oD x.op = true then x.dst else 0) = dv
                  have HDV : Hid (oD x.op = true → x.dst = dv) := Lib.hid (fun h => by rw [← hdv, if_pos h])
                  clear hdv
                  go_upto_if 95 with fail
                  go_cut [] from 48 to 138 (fun wx => Hid (RowB wx bn m (fun k => !(oD x.op && decide (x.dst = (k : Int))) && (r.succ j).any fun a => M1 a k)) ∧ Hid (Lv w (.int .i64 r.params) (.slice CA m cc) (.slice (some ⟨g, o, none⟩) n ic) (.slice DA r.edits dc) b0 n m M1 wx))
                  case first =>
                    have HRX := Lib.hid (HRG.out x HXM.out).1
                    generalize hod : oD x.op = od at *
                    have HOD := Lib.hid hod
                    clear hod
                    cases od
                    · skip
                      go_wp2
                      go_meet
                      exact ⟨HR6, HL5⟩
                    · obtain ⟨hd0, hd1⟩ := HRX.out rfl
                      have hdx := HDV.out rfl
                      obtain ⟨dn, rfl⟩ : ∃ dn : Nat, dv = dn := ⟨dv.toNat, by omega⟩
                      have hdm : dn < m := by omega
                      have hd1' : (dn : Int) < (m : Int) := by omega
                      have hd0' : (0 : Int) ≤ (dn : Int) := by omega
                      have hcn := HR6.out.cell hdm
                      have hfn : w5.frozen? ⟨bn, dn, none⟩ = false := RowV.free HR6.out dn
                      have HR7 := Lib.hid ((HR6.out.set dn false).congr (f' := fun k => !(true && decide (x.dst = (k : Int))) && (r.succ j).any fun a => M1 a k) (fun k _ => by
                        rw [hdx]
                        by_cases hk : k = dn
                        · subst hk; simp
                        · have e : ¬ (dn : Int) = (k : Int) := by omega
                          simp [hk, e]))
                      have HL7 := Lib.hid (HL5.out.set (b := bn) (by omega) dn (.bool false))
                      clear HR6 HL5 HRX
                      go_wp2
                      go_meet
                      exact ⟨HR7, HL7⟩
                  case rest =>
                    obtain ⟨HR7, HL7⟩ := hcut
                    clear HR6 HL5 HDV
                    have hbz := HL7.out.bx.2.1
                    obtain ⟨g', o', x', hx', hga, hg', hI⟩ := HIN.out wc hbz j hjn
                    simp only [Option.some.injEq, Addr.mk.injEq, and_true] at hga
                    obtain ⟨rfl, rfl⟩ := hga
                    obtain rfl : x = x' := by
                      rw [HX.out] at hx'
                      exact Option.some.inj hx'
                    obtain ⟨X2, e2, TX2, tx2, EX2, ex2, hcs, hia, _⟩ := hI
                    have HCALL := Lib.hid (HUSE.out wc hbz x X2 e2 TX2 tx2 EX2 ex2 hia (by have := HAL.out x HXM.out; omega))
                    obtain ⟨h0, h1, h2, h3, h4, h5, h6, h7, h8, h9, h10, h11, h12, h13, h14⟩ := hcs
                    obtain ⟨c0, c1, c2, c3⟩ := HL7.out.bx.1
                    clear hia hx' hg'
                    go_wp2_with fail
                    refine HCALL.out.mono ?_
                    rintro e w6 ⟨v6, rfl, hown6, hb6⟩
                    obtain ⟨A3, d3, rfl⟩ := own_form hown6
                    have HV6 : Hid (Valr A3 wc.heap.size x.uses w6) := Lib.hid (Valr.of hown6)
                    have HL8 := Lib.hid (HL7.out.step hb6)
                    have HR8 := Lib.hid (HR7.out.below hb6)
                    have hbn2 : bn < wc.heap.size := HR7.out.lt
                    have HNW : Hid (∀ k, nowB r M1 j x k = ((!(oD x.op && decide (x.dst = (k : Int))) && (r.succ j).any fun a => M1 a k) || decide ((k : Int) ∈ x.uses))) := Lib.hid (fun k => by
                      unfold nowB
                      rw [Bool.or_comm])
                    have HUR := Lib.hid (HRG.out x HXM.out).2
                    have HUL : Hid (x.uses.length ≤ 8) := Lib.hid (Nat.le_trans (uses_len x) (Nat.le_trans (regs_len x) (by have := HAL.out x HXM.out; omega)))
                    clear h0 h1 h2 h3 h4 h5 h6 h7 h8 h9 h10 h11 h12 h13 h14 c0 c1 c2 c3 hb6 hown6 HL7 HR7 HCALL
                    generalize wc.heap.size = lo at *
                    generalize hf2 : (fun k : Nat => !(oD x.op && decide (x.dst = (k : Int))) && (r.succ j).any fun a => M1 a k) = f2 at *
                    have HNW2 : Hid (∀ k, nowB r M1 j x k = (f2 k || decide ((k : Int) ∈ x.uses))) := Lib.hid (fun k => by rw [HNW.out k, ← hf2])
                    clear hf2 HNW
                    generalize hus : x.uses = us at *
                    generalize hnu : us.length = nu at *
                    have HNU := Lib.hid hnu
                    have hnu8 := HUL.out
                    clear hnu hus
                    go_wp2
                    obtain ⟨w7, rfl⟩ : ∃ w7 : World, w7 = w6 := ⟨_, rfl⟩
                    go_loopw [106] (fun s wr => ∃ q : Nat, q ≤ nu ∧ s = .int .i64 q ∧ Hid (RowB wr bn m (fun k => f2 k || decide ((k : Int) ∈ us.take q))) ∧ Hid (Lv w (.int .i64 r.params) (.slice CA m cc) (.slice (some ⟨g, o, none⟩) n ic) (.slice DA r.edits dc) b0 n m M1 wr) ∧ Hid (Valr A3 lo us wr)) (fun s _ => nu - (intOf s).toNat)
                    case atStart => exact ⟨0, by omega, rfl, Lib.hid (HR8.out.congr (fun k _ => by simp)), HL8, HV6⟩
                    case round =>
                      clear HR8 HL8 HV6
                      obtain ⟨q, hq, rfl, HR9, HL9, HV9⟩ := hrel
                      have hq0 : (0 : Int) ≤ (q : Int) := by omega
                      by_cases hqn : q < nu
                      · have hq1 : (q : Int) < (nu : Int) := by omega
                        have hqu : q < us.length := by rw [HNU.out]; exact hqn
                        rcases HV9.out with h0 | ⟨gu, rfl, hgu, _, hcu⟩
                        · rw [HNU.out] at h0; omega
                        have hcq := hcu q hqu
                        obtain ⟨hu0, hu1⟩ := HUR.out _ (List.getElem_mem hqu)
                        have HTK : Hid (∀ k : Nat, decide ((k : Int) ∈ us.take (q + 1)) = (decide ((k : Int) ∈ us.take q) || decide ((k : Int) = us[q]))) := Lib.hid (fun k => by
                          rw [List.take_succ_eq_append_getElem hqu, Bool.eq_iff_iff]
                          simp only [decide_eq_true_eq, Bool.or_eq_true, List.mem_append, List.mem_singleton])
                        clear hcu
                        generalize us[q] = uq at *
                        obtain ⟨un, rfl⟩ : ∃ un : Nat, uq = un := ⟨uq.toNat, by omega⟩
                        have hum : un < m := by omega
                        have hcn := HR9.out.cell hum
                        have hfn : wr.frozen? ⟨bn, un, none⟩ = false := RowV.free HR9.out un
                        have HR10 := Lib.hid ((HR9.out.set un true).congr (f' := fun k => f2 k || decide ((k : Int) ∈ us.take (q + 1))) (fun k _ => by
                          rw [HTK.out k]
                          by_cases hk : k = un
                          · subst hk; simp
                          · have e : ¬ (k : Int) = (un : Int) := by omega
                            simp [hk, e]))
                        have HL10 := Lib.hid (HL9.out.set (b := bn) (by omega) un (.bool true))
                        have HV10 := Lib.hid (HV9.out.set hbn2 un (.bool true))
                        clear HR9 HL9 HV9 HTK
                        go_wp2
                        go_roundw
                        case rel => exact ⟨q + 1, by omega, by go_num, HR10, HL10, HV10⟩
                        case measure => simp [intOf]; omega
                      · obtain rfl : nu = q := by omega
                        have HR10 : Hid (RowB wr bn m (nowB r M1 j x)) := Lib.hid (HR9.out.congr (fun k _ => by
                          rw [HNW2.out k, List.take_of_length_le (by rw [HNU.out]; omega)]))
                        clear HR9 HV9 HUR HUL HNU hnu8
                        have HSD : Hid (∀ k, k < m → nowB r M1 j x k = true → LiveP r j k) := Lib.hid (fun k hk hnk => sound_now (fun i hi a ha => by rw [HN.out] at hi ⊢; exact HSL.out i hi a ha) HP.out.sound (by rw [HN.out]; exact hjn) HX.out (by rw [HMM.out]; exact hk) hnk)
                        have HLR : Hid (LRow r F0 j (nowB r M1 j x) M1 0 b M1) := Lib.hid (LRow.start HP.out)
                        have HDN : Hid (∀ b' M', LRow r F0 j (nowB r M1 j x) M1 r.classes.length b' M' → LPass r F0 j b' M') := Lib.hid (fun b' M' h => h.done (fun x' hx' a _ hn => by
                          rw [HX.out] at hx'
                          cases hx'
                          exact hn))
                        clear HP HNW2
                        generalize nowB r M1 j x = nw at *
                        go_wp2
                        obtain ⟨w8, rfl⟩ : ∃ w8 : World, w8 = wr := ⟨_, rfl⟩
                        go_loopw [5, 116] (fun cv s wr => ∃ (i : Nat) (b : Bool) (M : Nat → Nat → Bool), i ≤ m ∧ s = .int .i64 i ∧ cv = .bool b ∧ Hid (LRow r F0 j nw M1 i b M) ∧ Hid (RowB wr bn m nw) ∧ Hid (Lv w (.int .i64 r.params) (.slice CA m cc) (.slice (some ⟨g, o, none⟩) n ic) (.slice DA r.edits dc) b0 n m M wr)) (fun _ s _ => m - (intOf s).toNat)
                        case atStart => exact ⟨0, b, M1, by omega, rfl, rfl, HLR, HR10, HL9⟩
                        case round =>
                          clear HLR HR10 HL9
                          obtain ⟨i, b, M2, hi, rfl, rfl, HLR, HR11, HL11⟩ := hrel
                          have hi0 : (0 : Int) ≤ (i : Int) := by omega
                          by_cases him : i < m
                          · have hi1 : (i : Int) < (m : Int) := by omega
                            have hcn := HR11.out.cell him
                            have hra := HL11.out.mat.rowAt hjn
                            have hce := HL11.out.mat.ent_ hjn him
                            cases hnw : nw i
                            · have HLR2 := Lib.hid (HLR.out.skip (.inl hnw))
                              rw [hnw] at hcn
                              clear hnw HLR
                              go_wp2
                              go_roundw
                              case rel => exact ⟨i + 1, b, M2, by omega, by go_num, rfl, HLR2, HR11, HL11⟩
                              case measure => simp [intOf]; omega
                            · cases hmj : M2 j i
                              · have HLR2 := Lib.hid (HLR.out.set (by rw [HN.out]; exact hjn) (by rw [HMM.out]; exact him) hmj (HSD.out i him hnw))
                                have HR12 : Hid (RowB (wr.setCell ⟨b0 + 1 + j, i, none⟩ (.bool true)) bn m nw) := Lib.hid (HR11.out.keep (Below.heap_setCell _ _ _ _ (by show bn ≠ b0 + 1 + j; omega)))
                                have HL12 := Lib.hid (HL11.out.upd hjn i)
                                have hfn : wr.frozen? ⟨b0 + 1 + j, i, none⟩ = false := RowV.free (HL11.out.mat.ent j hjn) i
                                rw [hnw] at hcn
                                rw [hmj] at hce
                                clear hnw hmj HLR HR11 HL11
                                go_wp2
                                go_roundw
                                case rel => exact ⟨i + 1, true, _, by omega, by go_num, rfl, HLR2, HR12, HL12⟩
                                case measure => simp [intOf]; omega
                              · have HLR2 := Lib.hid (HLR.out.skip (.inr hmj))
                                rw [hnw] at hcn
                                rw [hmj] at hce
                                clear hnw hmj HLR
                                go_wp2
                                go_roundw
                                case rel => exact ⟨i + 1, b, M2, by omega, by go_num, rfl, HLR2, HR11, HL11⟩
                                case measure => simp [intOf]; omega
                          · obtain rfl : m = i := by omega
                            have HPP : Hid (LPass r F0 j b M2) := Lib.hid (HDN.out b M2 (by rw [HMM.out]; exact HLR.out))
                            clear HLR HR11 HDN HSD
                            go_wp2
                            go_roundw
                            case rel => exact ⟨j, _, M2, b, by omega, by omega, rfl, rfl, HPP, HL11⟩
                            case measure => simp [intOf]
end Go.Proofs.YtdjldmpfginkdaaGreatDoor
namespace Go.Proofs.YtdjldmpfginkdaaGreatDoor
open Go.RowKit
attribute [local go_sem ↓] Go.wp_at_zero Go.wp_at_succ

/-- The result of Successors. -/
noncomputable def Rc.next (r : Rc) (at_ : Int) : List Int := if 0 ≤ at_ ∧ at_ < r.instrs.length ∧ r.validate = 0 then (r.succ at_.toNat).map fun (q : Nat) => (q : Int) else []
theorem RowRes.ints {L : Nat} {w : World} {xs : List Int} {v : Value} (h : RowRes L w xs v) (hn : xs.length ≤ 2 ^ 40) : IsInts w w.heap.size xs v := by
  rcases h with ⟨rfl, rfl⟩ | ⟨g, rfl, _, hr⟩
  · exact IsInts.nil _ _
  · refine ⟨_, _, rfl, Nat.le_refl _, by unfold maxLen; omega, by simp, by simp, ?_⟩
    exact Rd.blk (cs := (Go.Proofs.YtdjldmpfginkdaaGreatDoor.ints xs).toArray) hr (by simp [Go.Proofs.YtdjldmpfginkdaaGreatDoor.ints]) hr.lt
set_option maxHeartbeats 4000000 in
theorem c_Successors (r : Rc) (cls : Value) (IA : Option Addr) (ic : Nat) (DA : Option Addr) (dc : Nat) (at_ : Int) (w : World) (B G : Nat) (hr : RcAt w B r cls IA ic) (hB : B ≤ w.heap.size) (hE : EnvS w G) (hR : EnvR w G) (hG : G ≤ w.heap.size) :
    Calls Tryz.prog 15 #[.agg #[.int .i64 r.params, cls, .slice IA r.instrs.length ic, .slice DA r.edits dc], .int .i64 at_] w fun e w' => ∃ v, e = .returned v ∧ RowRes w.heap.size w' (r.next at_) v ∧ Below w.heap.size w w' := by
  have HB0 := Lib.hid (Bx.start w (.int .i64 r.params) cls (.slice IA r.instrs.length ic) (.slice DA r.edits dc))
  have HR := Lib.hid hr
  have HVAL := Lib.hid (fun (W : World) (hW : Below w.heap.size w W) => c_RegVal r cls IA ic DA dc W B G (HR.out.below hW hB) (Nat.le_trans hB hW.size) (hE.below hW hG) (hR.below hW hG) (Nat.le_trans hG hW.size))
  have HNX : Hid (∀ (h : ¬ (0 ≤ at_ ∧ at_ < r.instrs.length ∧ r.validate = 0)), r.next at_ = []) := Lib.hid (fun h => if_neg h)
  obtain ⟨CA, cc, rfl, _⟩ := hr.cls
  have hbz := HB0.out.2.1
  obtain ⟨c0, c1, c2, c3⟩ := HB0.out.1
  clear hr hE hR
  by_cases h0 : at_ < 0
  · have HZ := Lib.hid (HNX.out (fun h => by omega))
    clear HNX HVAL HR c0 c1 c2 c3
    generalize r.instrs.length = n at *
    go_enter Tryz.func15, Tryz.ntmps15
    go_wp2
    go_ret
    exact ⟨_, rfl, .inl ⟨HZ.out, rfl⟩, hbz⟩
  by_cases h1 : (r.instrs.length : Int) ≤ at_
  · have HZ := Lib.hid (HNX.out (fun h => by omega))
    clear HNX HVAL HR c0 c1 c2 c3
    generalize r.instrs.length = n at *
    go_enter Tryz.func15, Tryz.ntmps15
    go_wp2
    go_ret
    exact ⟨_, rfl, .inl ⟨HZ.out, rfl⟩, hbz⟩
  obtain ⟨i, rfl⟩ : ∃ i : Nat, at_ = i := ⟨at_.toNat, by omega⟩
  have hin : i < r.instrs.length := by omega
  by_cases hv : r.validate = 0
  · have hok := Rc.val_ok_iff.1 hv
    have hSO := SuccOk.of hok.2.2.2.2.2.2.2.1 hok.2.2.2.2.2.2.2.2.1
    have hn20 := hok.1
    have HX : Hid (r.next i = (r.succ i).map fun (q : Nat) => (q : Int)) := Lib.hid (by unfold Rc.next; rw [if_pos ⟨by omega, by omega, hv⟩]; simp)
    have HSU : Hid (∀ (W : World) (_ : Below w.heap.size w W), Calls Tryz.prog 29 #[.agg #[.int .i64 r.params, .slice CA r.classes.length cc, .slice IA r.instrs.length ic, .slice DA r.edits dc], .int .i64 i] W (RetRow ((r.succ i).map fun (q : Nat) => (q : Int)) W)) := Lib.hid (fun W hW => by
      have := c_successorsR (.int .i64 r.params) (.slice CA r.classes.length cc) (.slice DA r.edits dc) r.instrs _ i W B (HR.out.ins.below hW hB) (Nat.le_trans hB hW.size) hin (by omega)
      rw [(hSO i hin).1] at this
      exact this)
    rw [hv] at HVAL
    clear hok hSO HNX HR c0 c1 c2 c3 hv
    generalize r.instrs.length = n, r.succ i = sc at *
    go_enter Tryz.func15, Tryz.ntmps15
    go_wp2_with fail
    refine (HVAL.out _ hbz).mono ?_
    rintro e w1 ⟨rfl, hb1⟩
    have HB1 := Lib.hid (HB0.out.step hb1)
    have hbz1 := HB1.out.2.1
    have hsz1 := hbz1.size
    obtain ⟨c0, c1, c2, c3⟩ := HB1.out.1
    clear HB0 hb1 HVAL hbz
    go_wp2_with fail
    refine (HSU.out _ hbz1).mono ?_
    rintro e w2 ⟨v, rfl, hres, hb2⟩
    have hbz2 := below_step hbz1 hb2
    have HRES : Hid (RowRes w.heap.size w2 (r.next i) v) := Lib.hid (by
      rw [HX.out]
      rcases hres with h | ⟨g, h2, h3, h4⟩
      · exact .inl h
      · exact .inr ⟨g, h2, Nat.le_trans hsz1 h3, h4⟩)
    clear hres hb2 c0 c1 c2 c3
    go_wp2
    go_ret
    exact ⟨_, rfl, HRES.out, hbz2⟩
  · have HZ := Lib.hid (HNX.out (fun h => hv h.2.2))
    have kv := beq_f hv
    clear HNX HR hv c0 c1 c2 c3
    generalize r.validate = vl at *
    go_enter Tryz.func15, Tryz.ntmps15
    go_wp2_with fail
    refine (HVAL.out _ hbz).mono ?_
    rintro e w1 ⟨rfl, hb1⟩
    have hbz1 := below_step hbz hb1
    clear hb1 HVAL hbz
    go_wp2
    go_ret
    exact ⟨_, rfl, .inl ⟨HZ.out, rfl⟩, hbz1⟩
/-- The live tagged registers before instruction i. -/
noncomputable def Rc.maps (r : Rc) (i : Nat) : List Int := (r.live i).filter fun k => decide (r.cls k = 0)
noncomputable def Rc.pmaps (r : Rc) : List (List Int) := (List.range r.instrs.length).map r.maps
theorem live_rng {r : Rc} {i : Nat} {k : Int} (h : k ∈ r.live i) : 0 ≤ k ∧ k < r.classes.length := by
  unfold Rc.live at h
  simp only [List.mem_map, List.mem_filter, List.mem_range] at h
  obtain ⟨a, ⟨h1, _⟩, rfl⟩ := h
  omega
theorem live_len (r : Rc) (i : Nat) : (r.live i).length ≤ r.classes.length := by
  unfold Rc.live
  rw [List.length_map]
  have := List.length_filter_le (fun k => @decide (LiveP r i k) (Classical.propDecidable _)) (List.range r.classes.length)
  simpa using this
theorem cls_at {r : Rc} {k : Nat} {c : Int} (h : r.classes[k]? = some c) : r.cls k = c := by
  unfold Rc.cls clsAt
  rw [if_neg (by omega)]
  simp [h]
set_option maxRecDepth 100000 in
set_option maxHeartbeats 8000000 in
theorem c_PointerMaps (r : Rc) (cls : Value) (IA : Option Addr) (ic : Nat) (DA : Option Addr) (dc : Nat) (w : World) (B G : Nat) (hr : RcAt w B r cls IA ic) (hB : B ≤ w.heap.size) (hE : EnvS w G) (hR : EnvR w G) (hG : G ≤ w.heap.size) :
    Calls Tryz.prog 27 #[.agg #[.int .i64 r.params, cls, .slice IA r.instrs.length ic, .slice DA r.edits dc]] w fun e w' => ((¬ r.Ok ∧ e = .returned (.slice none 0 0)) ∨ (r.Ok ∧ ∃ v, e = .returned v ∧ IsRows w' w'.heap.size r.pmaps v)) ∧ Below w.heap.size w w' := by
  have HB0 := Lib.hid (Bx.start w (.int .i64 r.params) cls (.slice IA r.instrs.length ic) (.slice DA r.edits dc))
  have HR := Lib.hid hr
  have HLV := Lib.hid (fun (W : World) (hW : Below w.heap.size w W) => c_Liveness r cls IA ic DA dc W B G (HR.out.below hW hB) (Nat.le_trans hB hW.size) (hE.below hW hG) (hR.below hW hG) (Nat.le_trans hG hW.size))
  obtain ⟨CA, cc, rfl, _⟩ := hr.cls
  have hbz := HB0.out.2.1
  have q47 : ∀ (w : World) (a : Option Addr) (n c n' c' : Nat), (binOp .eql 43 (.slice a n c) (.slice none n' c')).run Tryz.prog w = .ok (.bool a.isNone) w := fun w a n c n' c' => Lib.run_eql_slice_nil w _ _ a n c n' c' Tryz.underlying43
  by_cases hok : r.Ok
  case neg =>
    have HOK := Lib.hid hok
    clear hr hE hR HR hok
    go_enter Tryz.func27, Tryz.ntmps27
    go_wp2_with fail
    refine (HLV.out _ hbz).mono ?_
    rintro e w1 ⟨h | h, hb1⟩
    · obtain ⟨_, rfl⟩ := h
      have hbz1 := below_step hbz hb1
      clear hb1 HB0 HLV
      go_wp2
      go_ret
      exact ⟨.inl ⟨HOK.out, rfl⟩, hbz1⟩
    · exact absurd h.1 HOK.out
  case pos =>
  have HOK := Lib.hid hok
  have hn20 := hok.1
  have hm10 := hok.2.1
  clear hr hE hR hok
  obtain ⟨i0, hi0, hz0, hz1, hz2⟩ := info_parts info_int
  have HI : Hid (i0.zero = some (.int .i64 0) ∧ i0.size = 1 ∧ i0.bytes = 8) := Lib.hid ⟨hz0, hz1, hz2⟩
  have Hi0 := Lib.hid hi0
  clear hi0 hz0 hz1 hz2
  have hmk3 := fun (W : World) => made_introws W r.instrs.length (by omega)
  have HPM : Hid (r.pmaps = (List.range r.instrs.length).map r.maps) := Lib.hid rfl
  have HLVS : Hid (∀ k l, r.lives[k]? = some l → l = r.live k) := Lib.hid (fun k l h => by
    unfold Rc.lives at h
    rw [List.getElem?_map] at h
    cases hq : (List.range r.instrs.length)[k]? with
    | none => rw [hq] at h; cases h
    | some a =>
      rw [hq] at h
      obtain ⟨_, rfl⟩ := List.getElem?_eq_some_iff.1 hq
      simp at h
      exact h.symm)
  have HLL := Lib.hid (live_len r)
  have HLR := Lib.hid (fun (i : Nat) (k : Int) => @live_rng r i k)
  have HCL := Lib.hid HR.out.cls
  clear HR
  go_enter Tryz.func27, Tryz.ntmps27
  go_wp2_with fail
  refine (HLV.out _ hbz).mono ?_
  rintro e w1 ⟨h | h, hb1⟩
  · exact absurd HOK.out h.1
  obtain ⟨_, gl, rfl, hrows⟩ := h
  have HRW := Lib.hid hrows
  have HB1 := Lib.hid (HB0.out.step hb1)
  have hbz1 := HB1.out.2.1
  have hw1 := HB1.out.2.2
  clear hb1 HB0 HLV hbz hrows
  generalize hn : r.instrs.length = n at *
  generalize hm : r.classes.length = m at *
  have HN := Lib.hid hn
  have HMM := Lib.hid hm
  clear hn hm
  have HOo := Lib.hid (Outs.start w1 n r.maps (fun _ => .slice none 0 0))
  go_wp2
  generalize hWo : w1.alloc _ = wo at HOo
  have hlo : w1.heap.size + 1 ≤ wo.heap.size := by rw [← hWo]; simp
  have hbo : Below w1.heap.size w1 wo := by rw [← hWo]; exact below_new _ _
  clear hWo
  generalize hbo' : w1.heap.size = bo at *
  go_loopw [18] (fun s wr => ∃ (k Lk : Nat) (vs : Nat → Value), k ≤ n ∧ s = .int .i64 k ∧ Hid (Outs bo n k Lk r.maps vs (.slice none 0 0) wr) ∧ Below bo w1 wr ∧ Lk ≤ wr.heap.size) (fun s _ => n - (intOf s).toNat)
  case atStart => exact ⟨0, _, _, by omega, rfl, HOo, hbo, hlo⟩
  case round =>
    clear HOo hlo hbo
    obtain ⟨k, Lk, vs, hk, rfl, HO, hbw, hlk⟩ := hrel
    have hk0 : (0 : Int) ≤ (k : Int) := by omega
    by_cases hkn : k < n
    · have hk1 : (k : Int) < (n : Int) := by omega
      obtain ⟨g, o, l, u, hga, hgB, hl, hcu, hu⟩ := (HRW.out.below hbw (Nat.le_refl _)).at_ hkn
      simp only [Option.some.injEq, Addr.mk.injEq, and_true] at hga
      obtain ⟨rfl, rfl⟩ := hga
      have hll := HLVS.out k l hl
      have HLE : Hid (l.length ≤ m ∧ ∀ x ∈ l, 0 ≤ x ∧ x < m) := Lib.hid ⟨by rw [hll]; exact HLL.out k, fun x hx => HLR.out k x (by rw [← hll]; exact hx)⟩
      have HMP : Hid (r.maps k = l.filter fun x => decide (r.cls x = 0)) := Lib.hid (by rw [hll]; rfl)
      have HU : Hid (∀ W, Below bo w1 W → IsInts W bo l u) := Lib.hid (fun W hW => hu.keep (fun b hb => (hW.block b (by omega)).trans (hbw.block b (by omega)).symm) (Nat.le_refl _))
      obtain ⟨UA, uc, rfl, _⟩ := hu
      have hLb := HO.out.lt
      simp only [Nat.zero_add] at hcu
      clear hl hll
      generalize hnl : l.length = nl at *
      have HNL := Lib.hid hnl
      clear hnl
      have hnlm := HLE.out.1
      go_wp2
      clear hcu
      obtain ⟨w9, rfl⟩ : ∃ w9 : World, w9 = wr := ⟨_, rfl⟩
      go_loopw [25] (fun s wr => ∃ (q : Nat) (v : Value), q ≤ nl ∧ s = .int .i64 q ∧ Hid (Outs bo n k Lk r.maps vs v wr) ∧ Hid (wr.ownsRow Lk 3 1 v ((l.take q).filter fun x => decide (r.cls x = 0)).length (ints ((l.take q).filter fun x => decide (r.cls x = 0)))) ∧ Below bo w1 wr ∧ Lk ≤ wr.heap.size) (fun s _ => nl - (intOf s).toNat)
      case atStart => exact ⟨0, _, by omega, rfl, HO, Lib.hid (World.ownsRow_nil _ _ _ _), hbw, hlk⟩
      case round =>
        clear HO hbw hlk
        obtain ⟨q, v, hq, rfl, HO, HOW, hbw, hlk⟩ := hrel
        have hq0 : (0 : Int) ≤ (q : Int) := by omega
        by_cases hqn : q < nl
        · have hq1 : (q : Int) < (nl : Int) := by omega
          have hu2 := HU.out wr hbw
          obtain ⟨gu, ou, hqu, rfl, _, hcq⟩ := hu2.at_ (w' := wr) (fun _ _ => rfl) hqn
          obtain ⟨hx0, hx1⟩ := HLE.out.2 _ (List.getElem_mem hqu)
          have HTK : Hid ((l.take (q + 1)).filter (fun x => decide (r.cls x = 0)) = (l.take q).filter (fun x => decide (r.cls x = 0)) ++ (if r.cls l[q] = 0 then [l[q]] else [])) := Lib.hid (by
            rw [List.take_succ_eq_append_getElem hqu, List.filter_append]
            congr 1
            by_cases h : r.cls l[q] = 0 <;> simp [h])
          have hole : ((l.take q).filter (fun x => decide (r.cls x = 0))).length ≤ m := by
            have h1 := List.length_filter_le (fun x => decide (r.cls x = 0)) (l.take q)
            have h2 : (l.take q).length ≤ l.length := by simp; omega
            have h3 := HNL.out
            omega
          generalize (l.take q).filter (fun x => decide (r.cls x = 0)) = ol at *
          generalize l[q] = x at *
          obtain ⟨xn, rfl⟩ : ∃ xn : Nat, x = xn := ⟨x.toNat, by omega⟩
          have hxm : xn < m := by omega
          have hwb : Below w.heap.size w wr := hbz1.trans (hbw.mono (by omega))
          obtain ⟨gc, oc, hxc, rfl, _, hcc⟩ := HCL.out.at_ (w' := wr) (fun b hb => hwb.block b (by omega)) hxm
          have HCX : Hid (r.cls xn = r.classes[xn]) := Lib.hid (cls_at (List.getElem?_eq_getElem hxc))
          generalize r.classes[xn] = cx at *
          obtain ⟨b0, b1, b2, b3⟩ := HB1.out.1
          have b1' := (hbw.cell (p := ⟨w.heap.size, 1, none⟩) (by simp; omega)).trans b1
          clear b0 b1 b2 b3 hu2
          by_cases hc0 : cx = 0
          · have HE : Hid ((l.take (q + 1)).filter (fun x => decide (r.cls x = 0)) = ol ++ [(xn : Int)]) := Lib.hid (by rw [HTK.out, HCX.out, if_pos hc0])
            subst hc0
            have hog := HO.out.get hkn
            go_wp2_with (first
              | (at_builtin; refine wpList_append_rd _ rfl (.tmp 40) (.tmp 42) 22 rfl Lk 3 i0 (.int .i64 0) 1 8 Tryz.underlying22 Hi0.out HI.out.1 HI.out.2.1 HI.out.2.2 rfl (by omega) v ol.length (ints ol) rfl (HOW.out.alloc _) (wr.heap.size + 1) (some ⟨wr.heap.size, 0, none⟩) 1 1 [.int .i64 xn] rfl (Rd.blk (cs := #[.int .i64 xn]) (blk_new _ _) rfl (by omega)) (by simp [Value.oneCell']) (by omega) (by simp; omega) ?_
                 intro v5 w5 hown5 hg5 hat5
                 obtain ⟨A5, d5, rfl⟩ := own_form hown5
                 have HO5 := Lib.hid ((HO.out.alloc (.cells #[.int .i64 xn] 3)).grown hg5 (own_ge HOW.out))
                 have hb5 : Below bo w1 w5 := (hbw.trans ((below_new wr (.cells #[.int .i64 xn] 3)).mono (by omega))).grown hg5 (by simp; omega) (fun g e => by have := own_ge HOW.out g e; omega)
                 have hlk5 : Lk ≤ w5.heap.size := Nat.le_trans hlk (Nat.le_trans (by simp) hg5.size)
                 have hog5 := HO5.out.get hkn
                 have hfo5 : w5.frozen? ⟨bo, k, none⟩ = false := RowV.free HO5.out.row k
                 have HO6 := Lib.hid (HO5.out.set (.slice A5 (ol.length + 1) d5))
                 have hb6 : Below bo w1 (w5.setCell ⟨bo, k, none⟩ (.slice A5 (ol.length + 1) d5)) := by
                   have := below_set (w := w1) (b := bo) (W := w5) (by rw [hbo']; exact hb5) (by omega) k (.slice A5 (ol.length + 1) d5)
                   rw [hbo'] at this
                   exact this
                 have HOW6 := Lib.hid (own_set hown5 (b := bo) (by omega) k (.slice A5 (ol.length + 1) d5))
                 clear hown5 hg5 hat5 HO HOW hog hb5))
            go_roundw
            case rel => exact ⟨q + 1, _, by omega, by go_num, HO6, by rw [HE.out]; exact Lib.hid (by simpa [ints] using HOW6.out), hb6, by simpa [World.setCell] using hlk5⟩
            case measure => simp [intOf]; omega
          · have HE : Hid ((l.take (q + 1)).filter (fun x => decide (r.cls x = 0)) = ol) := Lib.hid (by rw [HTK.out, HCX.out, if_neg hc0]; simp)
            have kc := beq_f hc0
            go_wp2
            go_roundw
            case rel => exact ⟨q + 1, v, by omega, by go_num, HO, by rw [HE.out]; exact HOW, hbw, hlk⟩
            case measure => simp [intOf]; omega
        · obtain rfl : nl = q := by omega
          have HO2 := Lib.hid (HO.out.next (by
            have h := HOW.out
            rw [List.take_of_length_le (by rw [HNL.out]; omega), ← HMP.out] at h
            exact h))
          clear HO HOW
          go_wp2
          go_roundw
          case rel => exact ⟨k + 1, _, _, by omega, by go_num, HO2, hbw, Nat.le_refl _⟩
          case measure => simp [intOf]; omega
    · obtain rfl : n = k := by omega
      have HD := Lib.hid (HO.out.done (by omega))
      have hbz2 : Below w.heap.size w wr := hbz1.trans (hbw.mono (by omega))
      clear HO
      go_wp2
      go_ret
      exact ⟨.inr ⟨HOK.out, _, rfl, by rw [HPM.out]; exact HD.out⟩, hbz2⟩
end Go.Proofs.YtdjldmpfginkdaaGreatDoor
