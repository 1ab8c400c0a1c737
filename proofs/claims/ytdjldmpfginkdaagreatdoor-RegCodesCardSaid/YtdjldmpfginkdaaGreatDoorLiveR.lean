/- Contract of telref25.RegLiveness. -/
import Derived.Test.YtdjldmpfginkdaaGreatDoorGLive
import Derived.Test.YtdjldmpfginkdaaGreatDoorGSpin
import Derived.Test.YtdjldmpfginkdaaGreatDoorGUsesR
import Derived.Test.YtdjldmpfginkdaaGreatDoorVal2
import Derived.Test.YtdjldmpfginkdaaGreatDoorGRegD
namespace Go.Proofs.YtdjldmpfginkdaaGreatDoor
open Go.RowKit
attribute [local go_sem ↓] Go.wp_at_zero Go.wp_at_succ

/-- The rows in memory: block b0 holds n slices. -/
def RM (b0 n : Nat) (out : Nat → List Int) (W : World) : Prop := ∃ vs : Nat → Value, RowV W b0 22 (tabV n vs) ∧ ∀ i, i < n → IsInts W W.heap.size (out i) (vs i)
theorem isInts_set {W : World} {B b0 n : Nat} {vs : Nat → Value} {l : List Int} {v : Value} (h : IsInts W B l v) (hr : RowV W b0 22 (tabV n vs)) (hv : ∀ i, i < n → ∃ A k c, vs i = .slice A k c) (j : Nat) (u : Value) : IsInts (W.setCell ⟨b0, j, none⟩ u) B l v := by
  obtain ⟨A, c, h1, h2, h3, h4, h5, h6, h7⟩ := h
  refine ⟨A, c, h1, h2, h3, h4, h5, h6, ?_⟩
  rcases h7 with h7 | ⟨g, o, hA, hg, hc⟩
  · exact .inl h7
  · rcases Nat.eq_zero_or_pos l.length with h0 | h0
    · exact .inl h0
    · have hx := hc 0 (.int .i64 l[0]) (by simp [ints])
      have hne : g ≠ b0 := by
        intro e
        subst e
        rw [cell_of_row W g (o + 0) _ _ _ hr] at hx
        have hlt : o < n := by
          have := (Array.getElem?_eq_some_iff.1 hx).1
          simpa [tabV] using this
        rw [List.getElem?_toArray, Nat.add_zero, tabV_get hlt] at hx
        obtain ⟨A', k', c', hv'⟩ := hv o hlt
        rw [hv'] at hx
        cases hx
      have hk : (W.setCell ⟨b0, j, none⟩ u).heap[g]? = W.heap[g]? := Below.heap_setCell _ _ _ _ (by show g ≠ b0; exact hne)
      exact .inr ⟨g, o, hA, hg, fun i y hy => (World.cell?_of_block (a := ⟨g, o + i, none⟩) hk).trans (hc i y hy)⟩
section
variable {b0 n : Nat} {out : Nat → List Int} {W W' : World}
theorem RM.get (h : RM b0 n out W) {i : Nat} (hi : i < n) : ∃ A c, W.cell? ⟨b0, i, none⟩ = some (.slice A (out i).length c) ∧ IsInts W W.heap.size (out i) (.slice A (out i).length c) := by
  obtain ⟨vs, h1, h2⟩ := h
  have h3 := h2 i hi
  obtain ⟨A, c, h4, _⟩ := h3
  have h5 := RowV.cell h1 (tabV_get hi)
  have h6 := h2 i hi
  rw [h4] at h5 h6
  exact ⟨A, c, h5, h6⟩
theorem RM.below (h : RM b0 n out W) (hb : Below W.heap.size W W') : RM b0 n out W' := by
  obtain ⟨vs, h1, h2⟩ := h
  exact ⟨vs, h1.below hb, fun i hi => ((h2 i hi).below hb (Nat.le_refl _)).more hb.size⟩
theorem RM.free (h : RM b0 n out W) (j : Nat) : W.frozen? ⟨b0, j, none⟩ = false := by
  obtain ⟨vs, h1, _⟩ := h
  exact RowV.free h1 j
theorem RM.lt (h : RM b0 n out W) : b0 < W.heap.size := by
  obtain ⟨vs, h1, _⟩ := h
  exact RowV.lt h1
theorem RM.slices {vs : Nat → Value} (h2 : ∀ i, i < n → IsInts W W.heap.size (out i) (vs i)) : ∀ i, i < n → ∃ A k c, vs i = .slice A k c := fun i hi => by
  obtain ⟨A, c, h, _⟩ := h2 i hi
  exact ⟨A, _, c, h⟩
theorem RM.set (h : RM b0 n out W) {l : List Int} {v : Value} (hv : IsInts W W.heap.size l v) (j : Nat) : RM b0 n (updR out j l) (W.setCell ⟨b0, j, none⟩ v) := by
  obtain ⟨vs, h1, h2⟩ := h
  have hs : (W.setCell ⟨b0, j, none⟩ v).heap.size = W.heap.size := by simp [World.setCell]
  have h3 := RowV.set h1 j v
  rw [tabV_set] at h3
  refine ⟨_, h3, fun i hi => ?_⟩
  rw [hs]
  unfold updR
  by_cases e : i = j
  · rw [if_pos e, if_pos e]
    exact isInts_set hv h1 (RM.slices h2) j v
  · rw [if_neg e, if_neg e]
    exact isInts_set (h2 i hi) h1 (RM.slices h2) j v
theorem RM.start (W : World) (n : Nat) : RM W.heap.size n (fun _ => []) (W.alloc (.cells (List.replicate n (.slice none 0 0)).toArray 22)) := by
  refine ⟨fun _ => .slice none 0 0, ?_, fun i _ => IsInts.nil _ _⟩
  unfold RowV
  rw [← show List.replicate n (Value.slice none 0 0) = tabV n (fun _ => Value.slice none 0 0) from by
    unfold tabV
    rw [List.map_const', List.length_range]]
  exact blk_new _ _
theorem RM.done (h : RM b0 n out W) (hn : n ≤ 2 ^ 40) : IsRows W W.heap.size ((List.range n).map out) (.slice (some ⟨b0, 0, none⟩) n n) := by
  obtain ⟨vs, h1, h2⟩ := h
  refine rows_blk h1 (by simp) (tabV_len _ _) hn (fun i l u h3 h4 => ?_)
  have hi : i < n := by
    have := (List.getElem?_eq_some_iff.1 h3).1
    simpa using this
  rw [tabV_get hi] at h4
  cases h4
  have h5 : ((List.range n).map out)[i]? = some (out i) := by simp [hi]
  rw [h5] at h3
  cases h3
  exact h2 i hi
/-- The length of a row, as the world holds it. -/
def lenW (b0 : Nat) (W : World) (i : Nat) : Nat := match W.cell? ⟨b0, i, none⟩ with
  | some (.slice _ k _) => k
  | _ => 0
theorem RM.lens (h : RM b0 n out W) (m : Nat) : Sm (fun i => m - lenW b0 W i) n = Go.Proofs.YtdjldmpfginkdaaGreatDoor.lens n m out := Sm_congr fun i hi => by
  obtain ⟨A, c, h1, _⟩ := h.get hi
  unfold lenW
  rw [h1]
end
/-- What holds between the operations. -/
structure Lq (w : World) (u0 u1 u2 u3 : Value) (b0 n : Nat) (out : Nat → List Int) (W : World) : Prop where
  bx : Bx w u0 u1 u2 u3 W
  rm : RM b0 n out W
  le : w.heap.size < b0
section
variable {w W W' : World} {u0 u1 u2 u3 : Value} {b0 n : Nat} {out : Nat → List Int}
theorem Lq.step (h : Lq w u0 u1 u2 u3 b0 n out W) (hb : Below W.heap.size W W') : Lq w u0 u1 u2 u3 b0 n out W' := ⟨h.bx.step hb, h.rm.below hb, h.le⟩
theorem Lq.set (h : Lq w u0 u1 u2 u3 b0 n out W) {l : List Int} {v : Value} (hv : IsInts W W.heap.size l v) (j : Nat) : Lq w u0 u1 u2 u3 b0 n (updR out j l) (W.setCell ⟨b0, j, none⟩ v) := ⟨h.bx.set h.le j v, h.rm.set hv j, h.le⟩
end
/-- The box of an instruction. -/
def IBox (x : Ins) (A : Option Addr) (c : Nat) (TA : Option Addr) (tc : Nat) (EA : Option Addr) (ec : Nat) (b : Nat) (W : World) : Prop := W.heap[b]? = some (.cells #[.int .i64 x.op, .int .i64 x.dst, .int .i64 x.a, .int .i64 x.b, .int .i64 x.imm, .string x.name, .slice A x.args.length c, .int .i64 x.ty.kind, .string x.ty.name, .int .i64 x.ty.index, .slice TA x.ty.args.length tc, .int .i64 x.ck, .int .i64 x.ci, .string x.cs, .slice EA x.ce ec] 38 (0, 0))
theorem IBox.below {x : Ins} {A : Option Addr} {c : Nat} {TA : Option Addr} {tc : Nat} {EA : Option Addr} {ec : Nat} {b : Nat} {W W' : World} (h : IBox x A c TA tc EA ec b W) (hb : Below W.heap.size W W') : IBox x A c TA tc EA ec b W' := (hb.block b (Array.getElem?_eq_some_iff.1 h).1).trans h
theorem IBox.cells {x : Ins} {A : Option Addr} {c : Nat} {TA : Option Addr} {tc : Nat} {EA : Option Addr} {ec : Nat} {b : Nat} {W : World} (h : IBox x A c TA tc EA ec b W) : (W.cell? ⟨b, 0, none⟩ = some (.int .i64 x.op) ∧ W.cell? ⟨b, 1, none⟩ = some (.int .i64 x.dst) ∧ W.cell? ⟨b, 2, none⟩ = some (.int .i64 x.a) ∧ W.cell? ⟨b, 3, none⟩ = some (.int .i64 x.b) ∧ W.cell? ⟨b, 4, none⟩ = some (.int .i64 x.imm) ∧ W.cell? ⟨b, 5, none⟩ = some (.string x.name) ∧ W.cell? ⟨b, 6, none⟩ = some (.slice A x.args.length c) ∧ W.cell? ⟨b, 7, none⟩ = some (.int .i64 x.ty.kind) ∧ W.cell? ⟨b, 8, none⟩ = some (.string x.ty.name) ∧ W.cell? ⟨b, 9, none⟩ = some (.int .i64 x.ty.index) ∧ W.cell? ⟨b, 10, none⟩ = some (.slice TA x.ty.args.length tc) ∧ W.cell? ⟨b, 11, none⟩ = some (.int .i64 x.ck) ∧ W.cell? ⟨b, 12, none⟩ = some (.int .i64 x.ci) ∧ W.cell? ⟨b, 13, none⟩ = some (.string x.cs) ∧ W.cell? ⟨b, 14, none⟩ = some (.slice EA x.ce ec)) := by
  refine ⟨?_, ?_, ?_, ?_, ?_, ?_, ?_, ?_, ?_, ?_, ?_, ?_, ?_, ?_, ?_⟩ <;> (rw [cell_of_row _ _ _ _ _ _ h]; rfl)
theorem live_of_rows {r : Rc} {out : Nat → List Int} (h : LR r out) (hs : ∀ i, i < r.instrs.length → ∀ j ∈ r.succ i, j < r.instrs.length) (hc : ∀ i x, r.instrs[i]? = some x → out i = newV r out i x) : ∀ i, i < r.instrs.length → out i = r.live i := by
  intro i hi
  refine srt_ext _ _ (h.srt i hi) ?_ fun k => ?_
  · unfold Rc.live
    rw [List.pairwise_map]
    refine (List.Pairwise.filter _ List.pairwise_lt_range).imp (fun h => by omega)
  · unfold Rc.live
    simp only [List.mem_map, List.mem_filter, List.mem_range, decide_eq_true_eq]
    constructor
    · intro hk
      obtain ⟨q, rfl, h1, h2⟩ := h.snd i hi k hk
      exact ⟨q, ⟨h1, h2⟩, rfl⟩
    · rintro ⟨q, ⟨h1, h2⟩, rfl⟩
      exact (h.done hs hc hi q).2 ⟨h1, h2⟩
set_option maxRecDepth 100000 in
set_option maxHeartbeats 16000000 in
theorem c_RefLive (r : Rc) (cls : Value) (IA : Option Addr) (ic : Nat) (DA : Option Addr) (dc : Nat) (w : World) (B : Nat) (hr : RcAt w B r cls IA ic) (hB : B ≤ w.heap.size) :
    Calls Tryz.prog 34 #[.agg #[.int .i64 r.params, cls, .slice IA r.instrs.length ic, .slice DA r.edits dc]] w fun e w' => ((¬ r.Ok ∧ e = .returned (.slice none 0 0)) ∨ (r.Ok ∧ ∃ g, e = .returned (.slice (some ⟨g, 0, none⟩) r.instrs.length r.instrs.length) ∧ IsRows w' w'.heap.size r.lives (.slice (some ⟨g, 0, none⟩) r.instrs.length r.instrs.length))) ∧ Below w.heap.size w w' := by
  have HB0 := Lib.hid (Bx.start w (.int .i64 r.params) cls (.slice IA r.instrs.length ic) (.slice DA r.edits dc))
  have HR := Lib.hid hr
  have HVAL := Lib.hid (fun (W : World) (hW : Below w.heap.size w W) => c_RefVal r cls IA ic DA dc W B (HR.out.below hW hB) (Nat.le_trans hB hW.size))
  obtain ⟨CA, cc, rfl, _⟩ := hr.cls
  by_cases hok : r.Ok
  case neg =>
    have kv : (r.validate == 0) = false := beq_f (fun h => hok (Rc.val_ok_iff.1 h))
    have HOK := Lib.hid hok
    clear hr HR hok
    generalize r.validate = vl at *
    go_enter Tryz.func34, Tryz.ntmps34
    go_wp2_with fail
    refine (HVAL.out _ HB0.out.2.1).mono ?_
    rintro e w1 ⟨rfl, hb1⟩
    have hbz := below_step HB0.out.2.1 hb1
    clear hb1 HB0 HVAL
    go_wp2
    go_ret
    exact ⟨.inl ⟨HOK.out, rfl⟩, hbz⟩
  case pos =>
  have HOK := Lib.hid hok
  have hv0 := Rc.val_ok hok
  rw [hv0] at HVAL
  have hn20 := hok.1
  have hm10 := hok.2.1
  have HIB := Lib.hid hok.2.2.2.2.2.2.2.1
  have HSO := Lib.hid (SuccOk.of HIB.out hok.2.2.2.2.2.2.2.2.1)
  clear hr hok hv0
  have HIN := Lib.hid (fun (W : World) (hW : Below w.heap.size w W) (k : Nat) (hk : k < r.instrs.length) => HR.out.at_ (w' := W) (fun b hb => hW.block b (by omega)) hk)
  have HSU : Hid (∀ (W : World) (_ : Below w.heap.size w W) (i : Nat) (_ : i < r.instrs.length), Calls Tryz.prog 56 #[.agg #[.int .i64 r.params, .slice CA r.classes.length cc, .slice IA r.instrs.length ic, .slice DA r.edits dc], .int .i64 i] W (RetRow ((r.succ i).map fun (q : Nat) => (q : Int)) W)) := Lib.hid (fun W hW i hi => by
    have := c_nextR (.int .i64 r.params) (.slice CA r.classes.length cc) (.slice DA r.edits dc) r.instrs _ i W B (HR.out.ins.below hW hB) (Nat.le_trans hB hW.size) hi (by omega)
    rw [(HSO.out i hi).1] at this
    exact this)
  have HSL := Lib.hid (fun (i : Nat) (hi : i < r.instrs.length) => (HSO.out i hi).2)
  have HDEF := Lib.hid (fun (W : World) (op dst imm : Int) (u2 u3 u5 u6 u7 u8 u9 u10 u11 u12 u13 u14 : Value) => c_RefDef op dst imm u2 u3 u5 u6 u7 u8 u9 u10 u11 u12 u13 u14 W)
  have HUSE := Lib.hid (fun (W : World) (hW : Below w.heap.size w W) (x : Ins) (A : Option Addr) (c : Nat) (TA : Option Addr) (tc : Nat) (EA : Option Addr) (ec : Nat) (hx : IsInts W B x.args (.slice A x.args.length c)) (ha : x.args.length ≤ 2 ^ 20) => c_RefUses x A c TA tc EA ec W B hx (Nat.le_trans hB hW.size) ha)
  have HAL := Lib.hid (fun (x : Ins) (hx : x ∈ r.instrs) => (insB_args (HIB.out x hx)).2)
  have HLE := Lib.hid r.succ_le
  have hmk3 := fun (W : World) => made_introws W r.instrs.length (by omega)
  go_enter Tryz.func34, Tryz.ntmps34
  go_wp2_with fail
  refine (HVAL.out _ HB0.out.2.1).mono ?_
  rintro e w1 ⟨rfl, hb1⟩
  have HB1 := Lib.hid (HB0.out.step hb1)
  have hw1 : w.heap.size < w1.heap.size := HB1.out.2.2
  clear hb1 HB0 HVAL
  obtain ⟨b0, b1, b2, b3⟩ := HB1.out.1
  go_wp2
  clear b0 b1 b2 b3
  generalize hW0 : w1.alloc _ = W0
  have HQ0 : Hid (Lq w (.int .i64 r.params) (.slice CA r.classes.length cc) (.slice IA r.instrs.length ic) (.slice DA r.edits dc) w1.heap.size r.instrs.length (fun _ => []) W0) := Lib.hid (by
    rw [← hW0]
    exact ⟨HB1.out.step (below_new _ _), RM.start w1 _, hw1⟩)
  generalize w1.heap.size = b0 at *
  clear hW0 HB1
  generalize hn : r.instrs.length = n at *
  generalize hm : r.classes.length = m at *
  have HN := Lib.hid hn
  have HMM := Lib.hid hm
  clear hn hm
  go_loopw [4] (fun cv wr => ∃ (out : Nat → List Int) (b : Bool), cv = .bool b ∧ Hid (LR r out) ∧ Hid (b = false → ∀ i x, r.instrs[i]? = some x → out i = newV r out i x) ∧ Hid (Lq w (.int .i64 r.params) (.slice CA m cc) (.slice IA n ic) (.slice DA r.edits dc) b0 n out wr)) (fun cv wr => 2 * Sm (fun i => m - lenW b0 wr i) n + bitN cv)
  case atStart => exact ⟨_, true, rfl, Lib.hid (LR.start r), Lib.hid (by simp), HQ0⟩
  case round =>
    clear HQ0
    obtain ⟨out, b, rfl, HS, HC, HL⟩ := hrel
    cases b
    · have HLV := Lib.hid (live_of_rows HS.out (fun i hi => by rw [HN.out] at hi ⊢; exact HSL.out i hi) (HC.out rfl))
      have hbz := HL.out.bx.2.1
      have HRW : Hid (IsRows wr wr.heap.size r.lives (.slice (some ⟨b0, 0, none⟩) n n)) := Lib.hid (by
        have h := HL.out.rm.done (by omega)
        unfold Rc.lives
        rw [HN.out]
        rw [List.map_congr_left (g := r.live) (fun i hi => HLV.out i (by rw [HN.out]; exact List.mem_range.1 hi))] at h
        exact h)
      clear HS HC HL HLV
      go_wp2
      go_ret
      exact ⟨.inr ⟨HOK.out, b0, congrArg (fun q : Nat => Ending.returned (.slice (some ⟨b0, 0, none⟩) q q)) HN.out.symm, by rw [HN.out]; exact HRW.out⟩, hbz⟩
    · have hsub : IntKind.i64.wrap ((n : Int) - 1) = (n : Int) - 1 := IntWalk.i64_in _ (by omega)
      have HPS := Lib.hid (RPass.start HS.out)
      rw [HN.out, HMM.out] at HPS
      obtain ⟨c0, c1, c2, c3⟩ := HL.out.bx.1
      clear HC HS
      generalize hF : lens n m out = F0 at HPS
      have HF := Lib.hid hF
      clear hF
      go_wp2
      obtain ⟨wq, rfl⟩ : ∃ wq : World, wq = wr := ⟨_, rfl⟩
      clear c0 c1 c2 c3
      go_loopw [4, 5] (fun cv ix wr => ∃ (k : Nat) (z : Int) (out : Nat → List Int) (b : Bool), k ≤ n ∧ z + 1 = k ∧ ix = .int .i64 z ∧ cv = .bool b ∧ Hid (RPass r F0 k b out) ∧ Hid (Lq w (.int .i64 r.params) (.slice CA m cc) (.slice IA n ic) (.slice DA r.edits dc) b0 n out wr)) (fun _ ix _ => (intOf ix + 1).toNat)
      case atStart => exact ⟨n, _, out, false, by omega, by omega, rfl, rfl, HPS, HL⟩
      case round =>
        clear HPS
        obtain ⟨k, z, o1, b, hk, hz, rfl, rfl, HP, HL1⟩ := hrel
        cases k with
        | zero =>
          obtain rfl : z = -1 := by omega
          have HM : Hid (2 * Sm (fun i => m - lenW b0 wr i) n + bitN (.bool b) < 2 * Sm (fun i => m - lenW b0 wq i) n + bitN (.bool true)) := Lib.hid (by
            rw [HL1.out.rm.lens, HL.out.rm.lens, HF.out]
            have h1 := HP.out.yes
            have h2 := HP.out.no
            rw [HN.out, HMM.out] at h1 h2
            cases b
            · have := (h2 rfl).1
              simp only [bitN]
              omega
            · have := h1 rfl
              simp only [bitN]
              omega)
          have HC2 : Hid (b = false → ∀ i x, r.instrs[i]? = some x → o1 i = newV r o1 i x) := Lib.hid (fun hb i x hx => (HP.out.no hb).2 i x (by omega) hx)
          have HS2 := Lib.hid HP.out.lr
          clear HP
          go_wp2
          go_roundw
          case rel => exact ⟨o1, b, rfl, HS2, HC2, HL1⟩
          case measure => simpa [intOf] using HM.out
        | succ j =>
          obtain rfl : z = (j : Int) := by omega
          have hjn : j < n := by omega
          have hj0 : (0 : Int) ≤ (j : Int) := by omega
          have hj1 : (j : Int) < (n : Int) := by omega
          have hjs : IntKind.i64.wrap ((j : Int) - 1) = (j : Int) - 1 := IntWalk.i64_in _ (by omega)
          have hbz := HL1.out.bx.2.1
          obtain ⟨c0, c1, c2, c3⟩ := HL1.out.bx.1
          obtain ⟨g, o, x, hx, rfl, hg, hI⟩ := HIN.out wr hbz j hjn
          obtain ⟨X1, e1, TX, tx, EX, ex, hcs, hia, _⟩ := hI
          have HX := Lib.hid hx
          have HXM : Hid (x ∈ r.instrs) := Lib.hid (List.mem_of_getElem? hx)
          have HIA := Lib.hid hia
          obtain ⟨h0, h1, h2, h3, h4, h5, h6, h7, h8, h9, h10, h11, h12, h13, h14⟩ := hcs
          clear hx hia
          go_wp2_with fail
          clear h0 h1 h2 h3 h4 h5 h6 h7 h8 h9 h10 h11 h12 h13 h14 c0 c1 c2 c3
          have hxc : IBox x X1 e1 TX tx EX ex wr.heap.size (wr.alloc (.cells #[.int .i64 x.op, .int .i64 x.dst, .int .i64 x.a, .int .i64 x.b, .int .i64 x.imm, .string x.name, .slice X1 x.args.length e1, .int .i64 x.ty.kind, .string x.ty.name, .int .i64 x.ty.index, .slice TX x.ty.args.length tx, .int .i64 x.ck, .int .i64 x.ci, .string x.cs, .slice EX x.ce ex] 38)) := blk_new _ _
          have hba := below_new wr (.cells #[.int .i64 x.op, .int .i64 x.dst, .int .i64 x.a, .int .i64 x.b, .int .i64 x.imm, .string x.name, .slice X1 x.args.length e1, .int .i64 x.ty.kind, .string x.ty.name, .int .i64 x.ty.index, .slice TX x.ty.args.length tx, .int .i64 x.ck, .int .i64 x.ci, .string x.cs, .slice EX x.ce ex] 38)
          generalize hWa : wr.alloc _ = wa at *
          have HXC := Lib.hid hxc
          have HLa := Lib.hid (HL1.out.step hba)
          have hsa : wr.heap.size < wa.heap.size := by rw [← hWa]; simp
          have HIA2 := Lib.hid (HIA.out.below hba (Nat.le_trans hB HL1.out.bx.2.1.size))
          clear hWa hxc hba HL1 HIA hbz
          generalize wr.heap.size = xb at *
          refine (HDEF.out wa _ _ _ _ _ _ _ _ _ _ _ _ _ _ _).mono ?_
          rintro e w2 ⟨rfl, hb2⟩
          have HL2 := Lib.hid (HLa.out.step hb2)
          have HXC2 := Lib.hid (HXC.out.below hb2)
          have HIA3 := Lib.hid (HIA2.out.below hb2 (Nat.le_trans hB HLa.out.bx.2.1.size))
          have hs2 : xb < w2.heap.size := Nat.lt_of_lt_of_le hsa hb2.size
          clear hb2 HLa HXC HIA2 hsa
          obtain ⟨h0, h1, h2, h3, h4, h5, h6, h7, h8, h9, h10, h11, h12, h13, h14⟩ := HXC2.out.cells
          generalize hdv : (if oD x.op = true then x.dst else 0) = dv
          have HDV : Hid (oD x.op = true → x.dst = dv) := Lib.hid (fun h => by rw [← hdv, if_pos h])
          clear hdv
          generalize hod : oD x.op = od at *
          have HOD := Lib.hid hod
          clear hod
          have HCALL := Lib.hid (HUSE.out w2 HL2.out.bx.2.1 x X1 e1 TX tx EX ex HIA3.out (by have := HAL.out x HXM.out; omega))
          go_wp2_with fail
          refine HCALL.out.mono ?_
          rintro e w3 ⟨v3, rfl, hu3, hb3⟩
          have HL3 := Lib.hid (HL2.out.step hb3)
          have HU3 : Hid (UR x.uses v3 w3) := Lib.hid hu3
          clear HCALL hb3 hu3 HL2 HXC2 HIA3 hs2 h0 h1 h2 h3 h4 h5 h6 h7 h8 h9 h10 h11 h12 h13 h14
          obtain ⟨c0, c1, c2, c3⟩ := HL3.out.bx.1
          go_wp2_with fail
          refine (HSU.out w3 HL3.out.bx.2.1 j hjn).mono ?_
          rintro e w4 ⟨v4, rfl, hres, hb4⟩
          have hres4 := hres.ints (by have := HLE.out j; simp; omega)
          have HL4 := Lib.hid (HL3.out.step hb4)
          have HU4 : Hid (UR x.uses v3 w4) := Lib.hid ((HU3.out.below hb4 (Nat.le_refl _)).more hb4.size)
          have hres5 := hres4
          obtain ⟨A4, d4, hv4, _⟩ := hres5
          rw [List.length_map] at hv4
          subst hv4
          have HJ := Lib.hid hres4
          have hml := HLE.out j
          clear hres hb4 hres4 HL3 HU3 c0 c1 c2 c3
          generalize hjl : (r.succ j).length = jl at *
          have HJL := Lib.hid hjl
          clear hjl
          go_wp2
          obtain ⟨wo, rfl⟩ : ∃ wo : World, wo = w4 := ⟨_, rfl⟩
          go_loopw [9, 11] (fun lv s wr => ∃ a : Nat, a ≤ jl ∧ s = .int .i64 a ∧ Hid (UR (putS x o1 x.uses ((r.succ j).take a)) lv wr) ∧ Hid (Below wo.heap.size wo wr)) (fun _ s _ => jl - (intOf s).toNat)
          case atStart => exact ⟨0, by omega, rfl, by simpa [putS] using HU4, Lib.hid (Below.refl _ _)⟩
          case round =>
            clear HU4
            obtain ⟨a, ha, rfl, HU, HBW⟩ := hrel
            have ha0 : (0 : Int) ≤ (a : Int) := by omega
            by_cases haj : a < jl
            · have ha1 : (a : Int) < (jl : Int) := by omega
              have haq : a < (r.succ j).length := by rw [HJL.out]; exact haj
              obtain ⟨g5, o5, hq5, rfl, hg5, hcell⟩ := (HJ.out.below HBW.out (Nat.le_refl _)).at_ (w' := wr) (fun _ _ => rfl) haj
              rw [List.getElem_map] at hcell
              have han := HSL.out j hjn _ (List.getElem_mem haq)
              have HTK : Hid (putS x o1 x.uses ((r.succ j).take (a + 1)) = putL x (putS x o1 x.uses ((r.succ j).take a)) (o1 (r.succ j)[a])) := Lib.hid (by
                rw [List.take_succ_eq_append_getElem haq, putS_snoc])
              have HPL := Lib.hid (fun (b : Nat) => Nat.le_trans (part_len HP.out.lr HIB.out (fun i hi => by rw [HN.out] at hi ⊢; exact HSL.out i hi) HX.out haq b) (by rw [HMM.out]; omega : r.classes.length ≤ 2 ^ 30))
              generalize (r.succ j)[a] = s at *
              generalize hL0 : putS x o1 x.uses ((r.succ j).take a) = L0 at *
              have HLL := Lib.hid hL0
              clear hL0
              have hs0 : (0 : Int) ≤ (s : Int) := by omega
              have hs1 : (s : Int) < (n : Int) := by omega
              have HL5 := Lib.hid (HL4.out.step HBW.out)
              have HLEN := Lib.hid (HP.out.lr.len (by rw [HN.out]; exact han))
              obtain ⟨A6, d6, hrow, hir⟩ := HL5.out.rm.get han
              have HIR := Lib.hid hir
              generalize hrl : (o1 s).length = rl at *
              have HRL := Lib.hid hrl
              clear hir hrl
              have hrb : rl ≤ 1000 := by have h := HLEN.out; rw [HMM.out] at h; omega
              go_wp2
              obtain ⟨wi, rfl⟩ : ∃ wi : World, wi = wr := ⟨_, rfl⟩
              have HCE := Lib.hid hcell
              have hg6 : g5 + 1 ≤ wi.heap.size := Nat.le_trans hg5 HBW.out.size
              clear hrow hcell
              go_loopw [9, 12] (fun lv s12 wr => ∃ b : Nat, b ≤ rl ∧ s12 = .int .i64 b ∧ Hid (UR (putL x L0 ((o1 s).take b)) lv wr) ∧ Hid (Below wi.heap.size wi wr)) (fun _ s12 _ => rl - (intOf s12).toNat)
              case atStart => exact ⟨0, by omega, rfl, by simpa [putL] using HU, Lib.hid (Below.refl _ _)⟩
              case round =>
                clear HU
                obtain ⟨b', hb', rfl, HU, HBI⟩ := hrel
                have hb0 : (0 : Int) ≤ (b' : Int) := by omega
                have hcw : wr.cell? ⟨g5, o5 + a, none⟩ = some (.int .i64 s) := (HBI.out.cell (p := ⟨g5, o5 + a, none⟩) (by show g5 < _; omega)).trans HCE.out
                have HLi := Lib.hid (HL5.out.step HBI.out)
                obtain ⟨A7, d7, hrow, hir⟩ := HLi.out.rm.get han
                rw [HRL.out] at hrow hir
                have HW2 := Lib.hid (Nat.le_trans hg6 HBI.out.size)
                by_cases hbr : b' < rl
                · have hb1 : (b' : Int) < (rl : Int) := by omega
                  obtain ⟨g8, o8, hq8, rfl, _, hce2⟩ := hir.at_ (w' := wr) (fun _ _ => rfl) hbr
                  have HTB : Hid (putL x L0 ((o1 s).take (b' + 1)) = put1 x (putL x L0 ((o1 s).take b')) (o1 s)[b']) := Lib.hid (by rw [List.take_succ_eq_append_getElem hq8, putL_snoc])
                  generalize (o1 s)[b'] = y at *
                  have hpl := HPL.out b'
                  generalize putL x L0 ((o1 s).take b') = lb at *
                  by_cases hp : od = true ∧ y = dv
                  · have k1 : (!od) = false := by simp [hp.1]
                    have k2 : (y != dv) = false := by simp [hp.2]
                    have HN2 : Hid (putL x L0 ((o1 s).take (b' + 1)) = lb) := Lib.hid (by
                      rw [HTB.out]
                      unfold put1
                      rw [if_pos ⟨HOD.out.trans hp.1, by rw [HDV.out hp.1]; exact hp.2⟩])
                    have HU2 := Lib.hid (show UR (putL x L0 ((o1 s).take (b' + 1))) u9 wr by rw [HN2.out]; exact HU.out)
                    clear hp HTB
                    go_wp2
                    go_roundw
                    case rel => exact ⟨b' + 1, by omega, by go_num, HU2, HBI⟩
                    case measure => simp [intOf]; omega
                  · have HN2 : Hid (putL x L0 ((o1 s).take (b' + 1)) = ins y lb) := Lib.hid (by
                      rw [HTB.out]
                      unfold put1
                      rw [if_neg (fun e => hp ⟨HOD.out.symm.trans e.1, by rw [← HDV.out (HOD.out.symm.trans e.1)]; exact e.2⟩)])
                    by_cases hod : od = true
                    · have k1 : (!od) = false := by simp [hod]
                      have k2 : (y != dv) = true := by
                        have : ¬ y = dv := fun e => hp ⟨hod, e⟩
                        simp [this]
                      clear hp hod HTB
                      go_wp2_with fail
                      refine (c_inserted lb y _ wr wr.heap.size HU.out (Nat.le_refl _) hpl).mono ?_
                      rintro e w9 ⟨v9, rfl, hi9, hb9⟩
                      have HU9 : Hid (UR (putL x L0 ((o1 s).take (b' + 1))) v9 w9) := Lib.hid (by rw [HN2.out]; exact hi9)
                      have HB9 := Lib.hid (below_step HBI.out hb9)
                      clear hi9 hb9
                      go_wp2
                      go_roundw
                      case rel => exact ⟨b' + 1, by omega, by go_num, HU9, HB9⟩
                      case measure => simp [intOf]; omega
                    · have k1 : (!od) = true := by simp [hod]
                      clear hp hod HTB
                      go_wp2_with fail
                      refine (c_inserted lb y _ wr wr.heap.size HU.out (Nat.le_refl _) hpl).mono ?_
                      rintro e w9 ⟨v9, rfl, hi9, hb9⟩
                      have HU9 : Hid (UR (putL x L0 ((o1 s).take (b' + 1))) v9 w9) := Lib.hid (by rw [HN2.out]; exact hi9)
                      have HB9 := Lib.hid (below_step HBI.out hb9)
                      clear hi9 hb9
                      go_wp2
                      go_roundw
                      case rel => exact ⟨b' + 1, by omega, by go_num, HU9, HB9⟩
                      case measure => simp [intOf]; omega
                · obtain rfl : rl = b' := by omega
                  have HU2 : Hid (UR (putS x o1 x.uses ((r.succ j).take (a + 1))) u9 wr) := Lib.hid (by
                    have h := HU.out
                    rw [List.take_of_length_le (by rw [HRL.out]; exact Nat.le_refl _)] at h
                    rw [HTK.out]
                    exact h)
                  have HB2 := Lib.hid (HBW.out.trans (HBI.out.mono HBW.out.size))
                  go_wp2
                  go_roundw
                  case rel => exact ⟨a + 1, by omega, by go_num, HU2, HB2⟩
                  case measure => simp [intOf]; omega
            · obtain rfl : jl = a := by omega
              have HL5 := Lib.hid (HL4.out.step HBW.out)
              have HNV : Hid (UR (newV r o1 j x) u9 wr) := Lib.hid (by
                have h := HU.out
                rw [List.take_of_length_le (by rw [HJL.out]; exact Nat.le_refl _)] at h
                exact h)
              have HXQ : Hid (r.instrs[j]? = some x) := HX
              obtain ⟨A6, d6, hrow, _⟩ := HL5.out.rm.get hjn
              have hun : IsInts wr wr.heap.size (newV r o1 j x) u9 := HNV.out
              obtain ⟨A7, d7, rfl, _⟩ := hun
              have HHS := Lib.hid (fun (i : Nat) (hi : i < r.instrs.length) => show ∀ j ∈ r.succ i, j < r.instrs.length by rw [HN.out] at hi ⊢; exact HSL.out i hi)
              have hlc : (newV r o1 j x).length ≤ 1000 := Nat.le_trans (HP.out.lr.newlen HIB.out HHS.out HXQ.out) (by rw [HMM.out]; omega)
              have hlo : (o1 j).length ≤ 1000 := Nat.le_trans (HP.out.lr.len (by rw [HN.out]; exact hjn)) (by rw [HMM.out]; omega)
              have hfz : wr.frozen? ⟨b0, j, none⟩ = false := HL5.out.rm.free j
              by_cases hle : (newV r o1 j x).length = (o1 j).length
              · have HP2 := Lib.hid (HP.out.skip HXQ.out hle)
                generalize (newV r o1 j x).length = q1 at *
                subst hle
                clear HP
                go_wp2
                go_roundw
                case rel => exact ⟨j, (j : Int) - 1, o1, b, by omega, by omega, by go_num, rfl, HP2, HL5⟩
                case measure => simp [intOf]
              · have HP2 := Lib.hid (HP.out.set HIB.out HHS.out HXQ.out hle)
                have HL6 := Lib.hid (HL5.out.set HNV.out j)
                generalize hq1 : (newV r o1 j x).length = q1 at *
                have k1 : ((q1 : Int) != ((o1 j).length : Int)) = true := by simp; omega
                clear HP hle hq1
                go_wp2
                go_roundw
                case rel => exact ⟨j, (j : Int) - 1, _, true, by omega, by omega, by go_num, rfl, HP2, HL6⟩
                case measure => simp [intOf]
end Go.Proofs.YtdjldmpfginkdaaGreatDoor
