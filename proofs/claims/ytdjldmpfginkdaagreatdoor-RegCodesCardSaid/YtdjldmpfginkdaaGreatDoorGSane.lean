/- The code of the sanity check: plain.
  Contracts of tellaw27.sane, has. -/
import Derived.Test.YtdjldmpfginkdaaGreatDoorGLive
import Derived.Test.YtdjldmpfginkdaaGreatDoorGRegD
namespace Go.Proofs.YtdjldmpfginkdaaGreatDoor
open Go.RowKit

def s0 : Ins := ⟨1, 1, 0, 0, 0, ⟨#[]⟩, [], zeroTy, 1, 4, ⟨#[]⟩, 0⟩
def s1 : Ins := ⟨5, 2, 1, 1, 1, ⟨#[]⟩, [], zeroTy, 0, 0, ⟨#[]⟩, 0⟩
def s2 : Ins := ⟨3, 0, 2, 0, 0, ⟨#[]⟩, [], zeroTy, 0, 0, ⟨#[]⟩, 0⟩
def s3 : Ins := ⟨24, 0, 0, 0, 0, ⟨#[]⟩, [], zeroTy, 0, 0, ⟨#[]⟩, 0⟩
/-- The code of the check, and the one that is spoiled. -/
def saneR : Rc := ⟨0, [0, 1, 1], [s0, s1, s2, s3], 0⟩
def saneB : Rc := ⟨0, [0, 0, 1], [s0, s1, s2, s3], 0⟩
theorem sane_ins : ∀ x ∈ saneR.instrs, insB saneR x = true := by
  intro x hx
  simp only [saneR, List.mem_cons, List.not_mem_nil, or_false] at hx
  rcases hx with rfl | rfl | rfl | rfl <;> rfl
theorem sane_succ : saneR.succ 0 = [1] ∧ saneR.succ 1 = [2] ∧ saneR.succ 2 = [3] ∧ saneR.succ 3 = [] := ⟨rfl, rfl, rfl, rfl⟩
theorem sane_ok : saneR.Ok := by
  refine ⟨by decide, by decide, by decide, by decide, by decide, by decide, fun i c hc => ?_, sane_ins, ⟨s3, rfl, by decide⟩, ?_⟩
  · have hi : i < 3 := (List.getElem?_eq_some_iff.1 hc).1
    match i, hi, hc with
    | 0, _, hc | 1, _, hc | 2, _, hc =>
      cases hc
      exact ⟨by decide, by decide, by decide⟩
  · refine ⟨fun i => i, fun i j hi hf hm hj hfj => ?_⟩
    have hi4 : i < 4 := hi
    obtain ⟨e0, e1, e2, e3⟩ := sane_succ
    match i, hi4, hm with
    | 0, _, hm => rw [e0] at hm; simp at hm; show 0 < j; omega
    | 1, _, hm => rw [e1] at hm; simp at hm; show 1 < j; omega
    | 2, _, hm => rw [e2] at hm; simp at hm; show 2 < j; omega
    | 3, _, hm => rw [e3] at hm; simp at hm
theorem sane_val : saneR.validate = 0 := Rc.val_ok sane_ok
theorem saneB_val : saneB.validate = 2 := Rc.val_ins (by decide) (by decide) (x := s1) (by simp [saneB]) rfl
theorem sane_uses : s0.uses = [] ∧ s1.uses = [1] ∧ s2.uses = [2] ∧ s3.uses = [0] := ⟨rfl, rfl, rfl, rfl⟩
theorem sane_l3 (k : Nat) : LiveP saneR 3 k ↔ k = 0 := by
  rw [liveP_iff (x := s3) rfl, sane_succ.2.2.2, sane_uses.2.2.2]
  simp
theorem sane_l2 (k : Nat) : LiveP saneR 2 k ↔ k = 2 := by
  rw [liveP_iff (x := s2) rfl, sane_succ.2.2.1, sane_uses.2.2.1]
  simp only [List.mem_singleton, exists_eq_left, sane_l3]
  have : oD s2.op = true := rfl
  have h2 : s2.dst = 0 := rfl
  rw [this, h2]
  simp only [true_and]
  omega
theorem sane_l1 (k : Nat) : LiveP saneR 1 k ↔ k = 1 := by
  rw [liveP_iff (x := s1) rfl, sane_succ.2.1, sane_uses.2.1]
  simp only [List.mem_singleton, exists_eq_left, sane_l2]
  have : oD s1.op = true := rfl
  have h2 : s1.dst = 2 := rfl
  rw [this, h2]
  simp only [true_and]
  omega
theorem sane_l0 (k : Nat) : ¬ LiveP saneR 0 k := by
  rw [liveP_iff (x := s0) rfl, sane_succ.1, sane_uses.1]
  simp only [List.mem_singleton, exists_eq_left, sane_l1]
  have : oD s0.op = true := rfl
  have h2 : s0.dst = 1 := rfl
  rw [this, h2]
  simp
  omega
theorem sane_live : saneR.live 0 = [] ∧ saneR.live 1 = [1] ∧ saneR.live 2 = [2] ∧ saneR.live 3 = [0] := by
  unfold Rc.live
  rw [show saneR.classes.length = 3 from rfl, show List.range 3 = [0, 1, 2] from rfl]
  refine ⟨?_, ?_, ?_, ?_⟩
  · simp [sane_l0]
  · simp [sane_l1]
  · simp [sane_l2]
  · simp [sane_l3]
theorem sane_lives : saneR.lives = [[], [1], [2], [0]] := by
  unfold Rc.lives
  rw [show saneR.instrs.length = 4 from rfl, show List.range 4 = [0, 1, 2, 3] from rfl]
  obtain ⟨h0, h1, h2, h3⟩ := sane_live
  simp [h0, h1, h2, h3]
theorem sane_pmaps : saneR.pmaps = [[], [], [], [0]] := by
  unfold Rc.pmaps
  rw [show saneR.instrs.length = 4 from rfl, show List.range 4 = [0, 1, 2, 3] from rfl]
  obtain ⟨h0, h1, h2, h3⟩ := sane_live
  have c0 : saneR.cls 0 = 0 := rfl
  have c1 : saneR.cls 1 = 1 := rfl
  have c2 : saneR.cls 2 = 1 := rfl
  simp [Rc.maps, h0, h1, h2, h3, c0, c1, c2]
theorem sane_next : saneR.next 0 = [1] ∧ saneR.next 3 = [] := by
  constructor
  · unfold Rc.next
    rw [if_pos ⟨by decide, by decide, sane_val⟩]
    rfl
  · unfold Rc.next
    rw [if_pos ⟨by decide, by decide, sane_val⟩]
    rfl
end Go.Proofs.YtdjldmpfginkdaaGreatDoor
namespace Go.Proofs.YtdjldmpfginkdaaGreatDoor
open Go.RowKit
attribute [local go_sem ↓] Go.wp_at_zero Go.wp_at_succ

/-- The sixty cells of the four instructions. -/
def s60 : Array Value := gcell4 s0 s1 s2 s3
where
  gcell4 (a b c d : Ins) : Array Value := #[.int .i64 a.op, .int .i64 a.dst, .int .i64 a.a, .int .i64 a.b, .int .i64 a.imm, .string ⟨#[]⟩, .slice none 0 0, .int .i64 0, .string ⟨#[]⟩, .int .i64 0, .slice none 0 0, .int .i64 a.ck, .int .i64 a.ci, .string ⟨#[]⟩, .slice none 0 0,
    .int .i64 b.op, .int .i64 b.dst, .int .i64 b.a, .int .i64 b.b, .int .i64 b.imm, .string ⟨#[]⟩, .slice none 0 0, .int .i64 0, .string ⟨#[]⟩, .int .i64 0, .slice none 0 0, .int .i64 b.ck, .int .i64 b.ci, .string ⟨#[]⟩, .slice none 0 0,
    .int .i64 c.op, .int .i64 c.dst, .int .i64 c.a, .int .i64 c.b, .int .i64 c.imm, .string ⟨#[]⟩, .slice none 0 0, .int .i64 0, .string ⟨#[]⟩, .int .i64 0, .slice none 0 0, .int .i64 c.ck, .int .i64 c.ci, .string ⟨#[]⟩, .slice none 0 0,
    .int .i64 d.op, .int .i64 d.dst, .int .i64 d.a, .int .i64 d.b, .int .i64 d.imm, .string ⟨#[]⟩, .slice none 0 0, .int .i64 0, .string ⟨#[]⟩, .int .i64 0, .slice none 0 0, .int .i64 d.ck, .int .i64 d.ci, .string ⟨#[]⟩, .slice none 0 0]
set_option maxRecDepth 100000 in
set_option maxHeartbeats 4000000 in
theorem c_sane (w : World) (G : Nat) (hE : EnvS w G) (hR : EnvR w G) (hG : G ≤ w.heap.size) :
    Calls Tryz.prog 11 #[] w fun e w' => e = .returned (.bool true) ∧ Below w.heap.size w w' := by
  have HE := Lib.hid hE
  have HR := Lib.hid hR
  clear hE hR
  go_enter Tryz.func11, Tryz.ntmps11
  go_wp2_with fail
  generalize hW : ((((w.alloc _).alloc _).alloc _).alloc _).alloc _ = W
  generalize hn : w.heap.size = n at *
  have g0 : RowV W n 3 (ints [0, 1, 1]) := by subst hW; exact blk_old (blk_old (blk_old (blk_old (blk_eq w _ hn))))
  have g1 : W.heap[n + 1]? = some (.cells s60 38 (0, 0)) := by subst hW; exact blk_old (blk_old (blk_old (blk_eq _ _ (by simp [hn]))))
  have g2 : W.heap[n + 2]? = some (.cells #[.int .i64 0, .slice (some ⟨n, 0, none⟩) 3 3, .slice (some ⟨n + 1, 0, none⟩) 4 4, .slice none 0 0] 26 (0, 0)) := by subst hW; exact blk_old (blk_old (blk_eq _ _ (by simp [hn])))
  have g3 : W.heap[n + 3]? = some (.cells #[.int .i64 0, .slice (some ⟨n + 4, 0, none⟩) 3 3, .slice (some ⟨n + 1, 0, none⟩) 4 4, .slice none 0 0] 26 (0, 0)) := by subst hW; exact blk_old (blk_eq _ _ (by simp [hn]))
  have g4 : RowV W (n + 4) 3 (ints [0, 0, 1]) := by subst hW; exact blk_eq _ _ (by simp [hn])
  have hsz : W.heap.size = n + 5 := by subst hW; simp [hn]
  have hb : Below n w W := by
    subst hW
    subst hn
    exact below_step (below_step (below_step (below_step (below_new w _) (below_new _ _)) (below_new _ _)) (below_new _ _)) (below_new _ _)
  clear hW
  have hins : IsInsl W W.heap.size saneR.instrs (.slice (some ⟨n + 1, 0, none⟩) 4 4) := by
    have hc : ∀ i, W.cell? ⟨n + 1, i, none⟩ = s60[i]? := fun i => cell_of_row _ _ _ _ _ _ g1
    refine ⟨_, _, rfl, Nat.le_refl _, .inr ⟨n + 1, 0, rfl, by omega, fun j hj => ?_⟩⟩
    have hj4 : j < 4 := hj
    match j, hj4 with
    | 0, _ | 1, _ | 2, _ | 3, _ =>
      exact ⟨none, 0, none, 0, none, 0, ⟨hc _, hc _, hc _, hc _, hc _, hc _, hc _, hc _, hc _, hc _, hc _, hc _, hc _, hc _, hc _⟩, IsInts.nil _ _, ⟨none, 0, rfl, Nat.le_refl _, .inl rfl⟩⟩
  have hok : ∀ x ∈ saneR.instrs, InsOk x := by
    intro x hx
    simp only [saneR, List.mem_cons, List.not_mem_nil, or_false] at hx
    have hz : Ty.ok zeroTy := by
      unfold zeroTy
      rw [Ty.ok]
      exact ⟨by unfold inI; omega, by unfold inI; omega, by rw [Ty.oks]; trivial⟩
    rcases hx with rfl | rfl | rfl | rfl <;> exact ⟨hz, by decide, by decide, by decide⟩
  have HRA : Hid (RcAt W W.heap.size saneR (.slice (some ⟨n, 0, none⟩) 3 3) (some ⟨n + 1, 0, none⟩) 4) := Lib.hid ⟨ints_blk g0 rfl (by omega), hins, hok⟩
  have HRB : Hid (RcAt W W.heap.size saneB (.slice (some ⟨n + 4, 0, none⟩) 3 3) (some ⟨n + 1, 0, none⟩) 4) := Lib.hid ⟨ints_blk g4 rfl (by omega), hins, hok⟩
  have HK : Hid (∀ W', Below W.heap.size W W' → (W'.cell? ⟨n + 2, 0, none⟩ = some (.int .i64 0) ∧ W'.cell? ⟨n + 2, 1, none⟩ = some (.slice (some ⟨n, 0, none⟩) 3 3) ∧ W'.cell? ⟨n + 2, 2, none⟩ = some (.slice (some ⟨n + 1, 0, none⟩) 4 4) ∧ W'.cell? ⟨n + 2, 3, none⟩ = some (.slice none 0 0)) ∧ (W'.cell? ⟨n + 3, 0, none⟩ = some (.int .i64 0) ∧ W'.cell? ⟨n + 3, 1, none⟩ = some (.slice (some ⟨n + 4, 0, none⟩) 3 3) ∧ W'.cell? ⟨n + 3, 2, none⟩ = some (.slice (some ⟨n + 1, 0, none⟩) 4 4) ∧ W'.cell? ⟨n + 3, 3, none⟩ = some (.slice none 0 0))) := Lib.hid (fun W' hW' => by
    have hc : ∀ i, W'.cell? ⟨n + 2, i, none⟩ = W.cell? ⟨n + 2, i, none⟩ := fun i => hW'.cell (p := ⟨n + 2, i, none⟩) (by simp; omega)
    have hd : ∀ i, W'.cell? ⟨n + 3, i, none⟩ = W.cell? ⟨n + 3, i, none⟩ := fun i => hW'.cell (p := ⟨n + 3, i, none⟩) (by simp; omega)
    exact ⟨⟨(hc 0).trans (cell_of_row _ _ _ _ _ _ g2), (hc 1).trans (cell_of_row _ _ _ _ _ _ g2), (hc 2).trans (cell_of_row _ _ _ _ _ _ g2), (hc 3).trans (cell_of_row _ _ _ _ _ _ g2)⟩, ⟨(hd 0).trans (cell_of_row _ _ _ _ _ _ g3), (hd 1).trans (cell_of_row _ _ _ _ _ _ g3), (hd 2).trans (cell_of_row _ _ _ _ _ _ g3), (hd 3).trans (cell_of_row _ _ _ _ _ _ g3)⟩⟩)
  have HEW := Lib.hid (fun (W' : World) (hW' : Below W.heap.size W W') => HE.out.below (hb.trans (hW'.mono (by omega))) hG)
  have HRW := Lib.hid (fun (W' : World) (hW' : Below W.heap.size W W') => HR.out.below (hb.trans (hW'.mono (by omega))) hG)
  have hGW : G ≤ W.heap.size := by omega
  have HV1 : Hid (∀ W', Below W.heap.size W W' → Calls Tryz.prog 9 #[.agg #[.int .i64 0, .slice (some ⟨n, 0, none⟩) 3 3, .slice (some ⟨n + 1, 0, none⟩) 4 4, .slice none 0 0]] W' fun e w' => e = .returned (.int .i64 0) ∧ Below W'.heap.size W' w') := Lib.hid (fun W' hW' => by
    have := c_RegVal saneR _ _ _ none 0 W' _ G (HRA.out.below hW' (Nat.le_refl _)) hW'.size (HEW.out W' hW') (HRW.out W' hW') (Nat.le_trans hGW hW'.size)
    rw [sane_val] at this
    exact this)
  have HV2 : Hid (∀ W', Below W.heap.size W W' → Calls Tryz.prog 9 #[.agg #[.int .i64 0, .slice (some ⟨n + 4, 0, none⟩) 3 3, .slice (some ⟨n + 1, 0, none⟩) 4 4, .slice none 0 0]] W' fun e w' => e = .returned (.int .i64 2) ∧ Below W'.heap.size W' w') := Lib.hid (fun W' hW' => by
    have := c_RegVal saneB _ _ _ none 0 W' _ G (HRB.out.below hW' (Nat.le_refl _)) hW'.size (HEW.out W' hW') (HRW.out W' hW') (Nat.le_trans hGW hW'.size)
    rw [saneB_val] at this
    exact this)
  have HLV : Hid (∀ W', Below W.heap.size W W' → Calls Tryz.prog 12 #[.agg #[.int .i64 0, .slice (some ⟨n, 0, none⟩) 3 3, .slice (some ⟨n + 1, 0, none⟩) 4 4, .slice none 0 0]] W' fun e w' => ∃ v, e = .returned v ∧ IsRows w' w'.heap.size [[], [1], [2], [0]] v ∧ Below W'.heap.size W' w') := Lib.hid (fun W' hW' => by
    refine (c_Liveness saneR _ _ _ none 0 W' _ G (HRA.out.below hW' (Nat.le_refl _)) hW'.size (HEW.out W' hW') (HRW.out W' hW') (Nat.le_trans hGW hW'.size)).mono ?_
    rintro e w' ⟨h | ⟨_, g, he, hr⟩, hb'⟩
    · exact absurd sane_ok h.1
    · rw [sane_lives] at hr
      exact ⟨_, he, hr, hb'⟩)
  have HPM : Hid (∀ W', Below W.heap.size W W' → Calls Tryz.prog 27 #[.agg #[.int .i64 0, .slice (some ⟨n, 0, none⟩) 3 3, .slice (some ⟨n + 1, 0, none⟩) 4 4, .slice none 0 0]] W' fun e w' => ∃ v, e = .returned v ∧ IsRows w' w'.heap.size [[], [], [], [0]] v ∧ Below W'.heap.size W' w') := Lib.hid (fun W' hW' => by
    refine (c_PointerMaps saneR _ _ _ none 0 W' _ G (HRA.out.below hW' (Nat.le_refl _)) hW'.size (HEW.out W' hW') (HRW.out W' hW') (Nat.le_trans hGW hW'.size)).mono ?_
    rintro e w' ⟨h | ⟨_, v, he, hr⟩, hb'⟩
    · exact absurd sane_ok h.1
    · rw [sane_pmaps] at hr
      exact ⟨_, he, hr, hb'⟩)
  have HS0 : Hid (∀ W', Below W.heap.size W W' → Calls Tryz.prog 15 #[.agg #[.int .i64 0, .slice (some ⟨n, 0, none⟩) 3 3, .slice (some ⟨n + 1, 0, none⟩) 4 4, .slice none 0 0], .int .i64 0] W' fun e w' => ∃ v, e = .returned v ∧ RowRes W'.heap.size w' [1] v ∧ Below W'.heap.size W' w') := Lib.hid (fun W' hW' => by
    have := c_Successors saneR _ _ _ none 0 0 W' _ G (HRA.out.below hW' (Nat.le_refl _)) hW'.size (HEW.out W' hW') (HRW.out W' hW') (Nat.le_trans hGW hW'.size)
    rw [sane_next.1] at this
    exact this)
  have HS3 : Hid (∀ W', Below W.heap.size W W' → Calls Tryz.prog 15 #[.agg #[.int .i64 0, .slice (some ⟨n, 0, none⟩) 3 3, .slice (some ⟨n + 1, 0, none⟩) 4 4, .slice none 0 0], .int .i64 3] W' fun e w' => ∃ A c, e = .returned (.slice A 0 c) ∧ Below W'.heap.size W' w') := Lib.hid (fun W' hW' => by
    have h := c_Successors saneR _ _ _ none 0 3 W' _ G (HRA.out.below hW' (Nat.le_refl _)) hW'.size (HEW.out W' hW') (HRW.out W' hW') (Nat.le_trans hGW hW'.size)
    rw [sane_next.2] at h
    refine h.mono ?_
    rintro e w' ⟨v, he, hr | ⟨g, hv, _, hr⟩, hb'⟩
    · rw [hr.2] at he
      exact ⟨_, _, he, hb'⟩
    · rw [hv] at he
      exact ⟨_, _, he, hb'⟩)
  have HB := Lib.hid hb
  clear HEW HRW HRA HRB hins hok g0 g1 g2 g3 g4 hb HE HR
  refine (HV1.out W (Below.refl _ _)).mono ?_
  rintro e w1 ⟨rfl, hb1⟩
  obtain ⟨⟨b0, b1, b2, b3⟩, ⟨c0, c1, c2, c3⟩⟩ := HK.out w1 hb1
  clear HV1
  go_wp2_with fail
  refine (HV2.out w1 hb1).mono ?_
  rintro e w2 ⟨rfl, hb2⟩
  have hb2 := below_step hb1 hb2
  clear HV2 b0 b1 b2 b3 c0 c1 c2 c3 hb1
  obtain ⟨⟨b0, b1, b2, b3⟩, _⟩ := HK.out w2 hb2
  go_wp2_with fail
  refine (HLV.out w2 hb2).mono ?_
  rintro e w3 ⟨v3, rfl, hr3, hb3⟩
  have HR3 := Lib.hid hr3
  have hb3 := below_step hb2 hb3
  clear HLV b0 b1 b2 b3 hb2 hr3
  go_wp2_with fail
  generalize hX : (((w3.alloc _).alloc _).alloc _).alloc _ = X
  generalize hm : w3.heap.size = m at *
  have HE3 : Hid (IsRows X X.heap.size [[], [1], [2], [0]] (.slice (some ⟨m + 1 + 1 + 1, 0, none⟩) 4 4)) := Lib.hid (by
    have e1 : RowV X m 3 (ints [1]) := by subst hX; exact blk_old (blk_old (blk_old (blk_eq w3 _ hm)))
    have e2 : RowV X (m + 1) 3 (ints [2]) := by subst hX; exact blk_old (blk_old (blk_eq _ _ (by simp [hm])))
    have e3 : RowV X (m + 1 + 1) 3 (ints [0]) := by subst hX; exact blk_old (blk_eq _ _ (by simp [hm]))
    have e4 : RowV X (m + 1 + 1 + 1) 22 [.slice none 0 0, .slice (some ⟨m, 0, none⟩) 1 1, .slice (some ⟨m + 1, 0, none⟩) 1 1, .slice (some ⟨m + 1 + 1, 0, none⟩) 1 1] := by subst hX; exact blk_eq _ _ (by simp [hm])
    refine rows_blk e4 rfl rfl (by omega) (fun i l u h1 h2 => ?_)
    have hi : i < 4 := (List.getElem?_eq_some_iff.1 h1).1
    match i, hi, h1, h2 with
    | 0, _, h1, h2 => cases h1; cases h2; exact IsInts.nil _ _
    | 1, _, h1, h2 => cases h1; cases h2; exact ints_blk e1 rfl (by omega)
    | 2, _, h1, h2 => cases h1; cases h2; exact ints_blk e2 rfl (by omega)
    | 3, _, h1, h2 => cases h1; cases h2; exact ints_blk e3 rfl (by omega))
  have hbX : Below w3.heap.size w3 X := by subst hX; exact below_step (below_step (below_step (below_new w3 _) (below_new _ _)) (below_new _ _)) (below_new _ _)
  have HRX := Lib.hid (HR3.out.below hbX (by omega))
  have hb4 := below_step hb3 hbX
  clear hX hbX HR3
  refine (c_EqualRows [[], [1], [2], [0]] _ _ X _ _ HRX.out HE3.out (by decide) (by decide)).mono ?_
  rintro e w4 ⟨rfl, d4, rfl⟩
  have hb4 := below_drewN hb4 d4
  clear HRX HE3
  obtain ⟨⟨b0, b1, b2, b3⟩, _⟩ := HK.out _ hb4
  generalize X.drewN d4 = w4 at *
  go_wp2_with fail
  refine (HPM.out w4 hb4).mono ?_
  rintro e w5 ⟨v5, rfl, hr5, hb5⟩
  have HR5 := Lib.hid hr5
  have hb5 := below_step hb4 hb5
  clear HPM b0 b1 b2 b3 hb4 hr5 hb3
  go_wp2_with fail
  generalize hX2 : (w5.alloc _).alloc _ = X2
  generalize hm2 : w5.heap.size = m2 at *
  have HE5 : Hid (IsRows X2 X2.heap.size [[], [], [], [0]] (.slice (some ⟨m2 + 1, 0, none⟩) 4 4)) := Lib.hid (by
    have e1 : RowV X2 m2 3 (ints [0]) := by subst hX2; exact blk_old (blk_eq w5 _ hm2)
    have e4 : RowV X2 (m2 + 1) 22 [.slice none 0 0, .slice none 0 0, .slice none 0 0, .slice (some ⟨m2, 0, none⟩) 1 1] := by subst hX2; exact blk_eq _ _ (by simp [hm2])
    refine rows_blk e4 rfl rfl (by omega) (fun i l u h1 h2 => ?_)
    have hi : i < 4 := (List.getElem?_eq_some_iff.1 h1).1
    match i, hi, h1, h2 with
    | 0, _, h1, h2 => cases h1; cases h2; exact IsInts.nil _ _
    | 1, _, h1, h2 => cases h1; cases h2; exact IsInts.nil _ _
    | 2, _, h1, h2 => cases h1; cases h2; exact IsInts.nil _ _
    | 3, _, h1, h2 => cases h1; cases h2; exact ints_blk e1 rfl (by omega))
  have hbX2 : Below w5.heap.size w5 X2 := by subst hX2; exact below_step (below_new w5 _) (below_new _ _)
  have HRX2 := Lib.hid (HR5.out.below hbX2 (by omega))
  have hb6 := below_step hb5 hbX2
  clear hX2 hbX2 HR5
  refine (c_EqualRows [[], [], [], [0]] _ _ X2 _ _ HRX2.out HE5.out (by decide) (by decide)).mono ?_
  rintro e w6 ⟨rfl, d6, rfl⟩
  have hb6 := below_drewN hb6 d6
  clear HRX2 HE5
  obtain ⟨⟨b0, b1, b2, b3⟩, _⟩ := HK.out _ hb6
  generalize X2.drewN d6 = w6 at *
  go_wp2_with fail
  refine (HS0.out w6 hb6).mono ?_
  rintro e w7 ⟨v7, rfl, hr7, hb7⟩
  have HR7 := Lib.hid (hr7.ints (by decide))
  have hb7 := below_step hb6 hb7
  clear HS0 b0 b1 b2 b3 hb6 hr7 hb5
  go_wp2_with fail
  generalize hX3 : w7.alloc _ = X3
  generalize hm3 : w7.heap.size = m3 at *
  have HE7 : Hid (IsInts X3 X3.heap.size [1] (.slice (some ⟨m3, 0, none⟩) 1 1)) := Lib.hid (by
    have e1 : RowV X3 m3 3 (ints [1]) := by subst hX3; exact blk_eq w7 _ hm3
    exact ints_blk e1 rfl (by omega))
  have hbX3 : Below w7.heap.size w7 X3 := by subst hX3; exact below_new w7 _
  have HRX3 := Lib.hid (HR7.out.below hbX3 (by omega))
  have hb8 := below_step hb7 hbX3
  clear hX3 hbX3 HR7
  refine (c_EqualInts [1] _ _ X3 _ _ HRX3.out HE7.out (by decide)).mono ?_
  rintro e w8 ⟨rfl, d8, rfl⟩
  have hb8 := below_drewN hb8 d8
  clear HRX3 HE7 hb7
  obtain ⟨⟨b0, b1, b2, b3⟩, _⟩ := HK.out _ hb8
  generalize X3.drewN d8 = w8 at *
  go_wp2_with fail
  refine (HS3.out w8 hb8).mono ?_
  rintro e w9 ⟨A9, c9, rfl, hb9⟩
  have hb9 := below_step hb8 hb9
  have hfin : Below n w w9 := HB.out.trans (hb9.mono (by omega))
  clear HS3 b0 b1 b2 b3 hb8
  go_wp2
  go_ret
  exact ⟨rfl, by rw [hn]; exact hfin⟩
end Go.Proofs.YtdjldmpfginkdaaGreatDoor
