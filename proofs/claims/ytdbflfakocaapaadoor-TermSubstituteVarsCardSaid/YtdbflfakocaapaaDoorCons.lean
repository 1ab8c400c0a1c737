/- Contracts of the constructors of terms, and of check. -/
import Derived.Test.YtdbflfakocaapaaDoorCollect
import Derived.Test.YtdbflfakocaapaaDoorRefValid
namespace Go.Proofs.YtdbflfakocaapaaDoor
open Go.RowKit

/-- A term has come back; nothing old has changed. -/
def RetTy (L : Nat) (t : Ty) (w : World) (e : Ending) (w' : World) : Prop := ∃ A c, e = .returned (.agg #[.int .i64 t.kind, .string t.name, .int .i64 t.index, .slice A t.args.length c]) ∧ IsTy w' L w'.heap.size t (.agg #[.int .i64 t.kind, .string t.name, .int .i64 t.index, .slice A t.args.length c]) ∧ Below w.heap.size w w'

def tAny : Ty := ⟨0, ⟨#[]⟩, 0, []⟩
def tNever : Ty := ⟨1, ⟨#[]⟩, 0, []⟩
def tVar (i : Int) : Ty := ⟨5, ⟨#[]⟩, i, []⟩
def tNamed (s : ByteArray) (ts : List Ty) : Ty := ⟨2, s, 0, ts⟩
def tTuple (ts : List Ty) : Ty := ⟨3, ⟨#[]⟩, 0, ts⟩
def tUnion (ts : List Ty) : Ty := ⟨4, ⟨#[]⟩, 0, ts⟩
def tExists (a b : Ty) : Ty := ⟨6, ⟨#[]⟩, 0, [a, b]⟩

set_option maxHeartbeats 400000 in
theorem c_Any (L : Nat) (w : World) : Calls Tryd.prog 23 #[] w (RetTy L tAny w) := by
  go_enter Tryd.func23, Tryd.ntmps23
  go_wp2
  go_returns
  exact ⟨none, 0, rfl, IsTy.mk_ (IsTyl.nil none 0), (Below.refl _ _).alloc (Nat.le_refl _) _⟩
set_option maxHeartbeats 400000 in
theorem c_Var (L : Nat) (i : Int) (w : World) : Calls Tryd.prog 40 #[.int .i64 i] w (RetTy L (tVar i) w) := by
  go_enter Tryd.func40, Tryd.ntmps40
  go_wp2
  go_returns
  exact ⟨none, 0, rfl, IsTy.mk_ (IsTyl.nil none 0), (Below.refl _ _).alloc (Nat.le_refl _) _⟩
set_option maxHeartbeats 400000 in
theorem c_Named (L : Nat) (s : ByteArray) (ts : List Ty) (v : Value) (w : World) (hv : IsTyl w L w.heap.size ts v) : Calls Tryd.prog 22 #[.string s, v] w (RetTy L (tNamed s ts) w) := by
  have HV := Lib.hid hv
  obtain ⟨A, c, rfl, _⟩ := hv
  go_enter Tryd.func22, Tryd.ntmps22
  go_wp2
  go_returns
  exact ⟨A, c, rfl, IsTy.mk_ (HV.out.keep (KeepIn.alloc _ (Nat.le_refl _)) (Nat.le_refl _) (by simp)), (Below.refl _ _).alloc (Nat.le_refl _) _⟩
theorem IsTyl.two {w : World} {L B g : Nat} {a b : Ty} {x0 x1 x2 x3 y0 y1 y2 y3 : Value} {t : TypeId} {f : Nat × Nat} (hb : w.heap[g]? = some (.cells #[x0, x1, x2, x3, y0, y1, y2, y3] t f)) (hL : L ≤ g) (hB : g < B) (ha : IsTy w L B a (.agg #[x0, x1, x2, x3])) (hbb : IsTy w L B b (.agg #[y0, y1, y2, y3])) (c : Nat) (hc : 2 ≤ c := by decide) :
    IsTyl w L B [a, b] (.slice (some ⟨g, 0, none⟩) 2 c) := by
  refine ⟨_, c, rfl, hc, .inr ⟨g, 0, rfl, hL, hB, ?_⟩⟩
  unfold IsTys
  refine ⟨⟨x0, x1, x2, x3, ?_, ?_, ?_, ?_, ha⟩, ?_⟩
  · rw [cell_of_row w g _ _ _ _ hb]; rfl
  · rw [cell_of_row w g _ _ _ _ hb]; rfl
  · rw [cell_of_row w g _ _ _ _ hb]; rfl
  · rw [cell_of_row w g _ _ _ _ hb]; rfl
  · unfold IsTys
    refine ⟨⟨y0, y1, y2, y3, ?_, ?_, ?_, ?_, hbb⟩, by unfold IsTys; trivial⟩
    · rw [cell_of_row w g _ _ _ _ hb]; rfl
    · rw [cell_of_row w g _ _ _ _ hb]; rfl
    · rw [cell_of_row w g _ _ _ _ hb]; rfl
    · rw [cell_of_row w g _ _ _ _ hb]; rfl
theorem IsTyl.one {w : World} {L B g : Nat} {a : Ty} {x0 x1 x2 x3 : Value} {t : TypeId} {f : Nat × Nat} (hb : w.heap[g]? = some (.cells #[x0, x1, x2, x3] t f)) (hL : L ≤ g) (hB : g < B) (ha : IsTy w L B a (.agg #[x0, x1, x2, x3])) (c : Nat) (hc : 1 ≤ c := by decide) :
    IsTyl w L B [a] (.slice (some ⟨g, 0, none⟩) 1 c) := by
  refine ⟨_, c, rfl, hc, .inr ⟨g, 0, rfl, hL, hB, ?_⟩⟩
  unfold IsTys
  refine ⟨⟨x0, x1, x2, x3, ?_, ?_, ?_, ?_, ha⟩, by unfold IsTys; trivial⟩
  · rw [cell_of_row w g _ _ _ _ hb]; rfl
  · rw [cell_of_row w g _ _ _ _ hb]; rfl
  · rw [cell_of_row w g _ _ _ _ hb]; rfl
  · rw [cell_of_row w g _ _ _ _ hb]; rfl
set_option maxHeartbeats 1000000 in
theorem c_Exists (L : Nat) (a b : Ty) (va vb : Value) (w : World) (ha : IsTy w L w.heap.size a va) (hb : IsTy w L w.heap.size b vb) (hL : L ≤ w.heap.size) : Calls Tryd.prog 43 #[va, vb] w (RetTy L (tExists a b) w) := by
  have HA := Lib.hid ha
  have HB := Lib.hid hb
  obtain ⟨A1, c1, rfl, _⟩ := ha.args_
  obtain ⟨A2, c2, rfl, _⟩ := hb.args_
  clear ha hb
  go_enter Tryd.func43, Tryd.ntmps43
  go_wp2
  go_returns
  refine ⟨some ⟨w.heap.size + 1 + 1 + 1, 0, none⟩, 2, rfl, ?_, ?_⟩
  · have hbel := fun (o1 o2 o3 o4 : Obj) => ((((Below.refl w.heap.size w).alloc (Nat.le_refl _) o1).alloc (by simp) o2).alloc (by simp; omega) o3).alloc (by simp; omega) o4
    refine IsTy.mk_ (IsTyl.two (g := w.heap.size + 1 + 1 + 1) (t := 25) (f := (0, 0)) ?_ (by omega) (by simp) ((HA.out.below (hbel _ _ _ _) (Nat.le_refl _)).more (Nat.le_refl _) (by simp; omega)) ((HB.out.below (hbel _ _ _ _) (Nat.le_refl _)).more (Nat.le_refl _) (by simp; omega)) 2)
    have := fun o => blk_new (((w.alloc (.cells #[.int .i64 a.kind, .string a.name, .int .i64 a.index, .slice A1 a.args.length c1] 25)).alloc (.cells #[.int .i64 b.kind, .string b.name, .int .i64 b.index, .slice A2 b.args.length c2] 25)).alloc (.cells #[.int .i64 6, .string ⟨#[]⟩, .int .i64 0, .slice (some ⟨w.heap.size + 1 + 1 + 1, 0, none⟩) 2 2] 25)) o
    simpa using this _
  · exact ((((Below.refl w.heap.size w).alloc (Nat.le_refl _) _).alloc (by simp) _).alloc (by simp; omega) _).alloc (by simp; omega) _

def sBox : ByteArray := ⟨#[66, 111, 120]⟩
def tChk : Ty := tExists tAny (tNamed sBox [tVar 0])
theorem chk_validate : tChk.validate = 0 := by decide +kernel
theorem chk_size : tChk.size = 4 := by decide
theorem chk_depth : tChk.depth = 3 := by decide
theorem chk_fvs : insAll [] (tChk.fvs 0) = [] := by decide
theorem chk_fvs1 : insAll [] ((tNamed sBox [tVar 0]).fvs 0) = [0] := by decide

set_option maxHeartbeats 2000000 in
theorem c_check (w : World) (G : Nat) (hE : EnvR w G) (hG : G ≤ w.heap.size) : Calls Tryd.prog 14 #[] w fun e w' => e = .returned (.bool true) ∧ Below w.heap.size w w' := by
  have HE := Lib.hid hE; clear hE
  go_enter Tryd.func14, Tryd.ntmps14
  go_wp2_with fail
  refine (c_Any w.heap.size _).mono ?_
  rintro e w1 ⟨A1, c1, rfl, ht1, hb1⟩
  have HT1 := Lib.hid ht1
  have hs1 := hb1.size
  clear ht1
  go_wp2_with fail
  refine (c_Var w.heap.size 0 _).mono ?_
  rintro e w2 ⟨A2, c2, rfl, ht2, hb2⟩
  have hs2 := hb2.size
  have HONE : Hid (∀ W : World, W = w2.alloc (.cells #[.int .i64 (tVar 0).kind, .string (tVar 0).name, .int .i64 (tVar 0).index, .slice A2 (tVar 0).args.length c2] 25) → IsTyl W w.heap.size W.heap.size [tVar 0] (.slice (some ⟨w2.heap.size, 0, none⟩) 1 1)) := Lib.hid (fun W hW => by
    subst hW
    exact IsTyl.one (blk_new _ _) (by omega) (by simp) ((ht2.below ((Below.refl _ _).alloc (Nat.le_refl _) _) (Nat.le_refl _)).more (Nat.le_refl _) (by simp)) 1)
  clear ht2
  go_wp2_with fail
  refine (c_Named w.heap.size sBox [tVar 0] _ _ (HONE.out _ rfl)).mono ?_
  rintro e w3 ⟨A3, c3, rfl, ht3, hb3⟩
  have hs3 := hb3.size
  simp at hs3
  have HT3 := Lib.hid ht3
  have hbw3 : Below w1.heap.size w1 w3 := hb2.trans (((Below.refl _ _).alloc hs2 _).trans (hb3.mono (by simp; omega)))
  have HT1' := Lib.hid ((HT1.out.below hbw3 (Nat.le_refl _)).more (Nat.le_refl _) hbw3.size)
  have hbw : Below w.heap.size w w3 := hb1.trans (hbw3.mono hs1)
  clear ht3 HT1 hb1 hb2 hb3 hbw3 HONE
  go_wp2_with fail
  refine (c_Exists w.heap.size tAny (tNamed sBox [tVar 0]) _ _ _ HT1'.out HT3.out (by omega)).mono ?_
  rintro e w4 ⟨A4, c4, rfl, ht4, hb4⟩
  have hs4 := hb4.size
  have hbw4 : Below w.heap.size w w4 := hbw.trans (hb4.mono (by omega))
  clear hb4 HT3 HT1' hbw
  obtain ⟨A5, c5, hv5, hl5⟩ := ht4.args_
  simp only [Value.agg.injEq, Array.mk.injEq, List.cons.injEq, Value.slice.injEq, and_true, true_and] at hv5
  obtain ⟨rfl, _, rfl⟩ := hv5
  obtain ⟨g, o, A6, c6, hj6, rfl, hg1, hg2, k0, k1, k2, k3, ht6⟩ := hl5.at_ (KeepIn.refl _ _ _) (j := 1) (by decide)
  have hT2 : Hid ((tExists tAny (tNamed sBox [tVar 0])).args.length = 2) := Lib.hid rfl
  have hT1 : Hid ((tExists tAny (tNamed sBox [tVar 0])).args[1] = tNamed sBox [tVar 0]) := Lib.hid rfl
  have hokT : Hid (tChk.ok) := Lib.hid (by unfold tChk tExists tAny tNamed tVar Ty.ok Ty.oks; unfold inI; simp [Ty.ok, Ty.oks, inI])
  rw [hT2.out] at ht4
  rw [hT1.out] at k0 k1 k2 k3 ht6
  have hok6 : Hid (tNamed sBox [tVar 0]).ok := Lib.hid (by unfold tNamed tVar Ty.ok Ty.oks; unfold inI; simp [Ty.ok, Ty.oks, inI])
  have hsz6 : (tNamed sBox [tVar 0]).size ≤ 2 ^ 28 := by decide
  have HT4 := Lib.hid ht4
  have HT6 := Lib.hid ht6
  rw [hT2.out]
  clear ht4 ht6 hl5 hj6 hT1 hT2
  have hgs : g < w4.heap.size := hg2
  change Hid (IsTy w4 w.heap.size w4.heap.size tChk _) at HT4
  have hcv := Lib.hid chk_fvs1
  generalize hN : tNamed sBox [tVar 0] = TN at *
  clear hN
  generalize (tExists tAny TN).kind = kT, (tExists tAny TN).name = nT, (tExists tAny TN).index = iT at *
  have hbA : Hid (∀ o : Obj, Below w4.heap.size w4 (w4.alloc o)) := Lib.hid (fun o => (Below.refl _ _).alloc (Nat.le_refl _) _)
  have HBX : Hid (∀ (w5 : World), Below (w4.alloc (.cells #[.int .i64 kT, .string nT, .int .i64 iT, .slice (some ⟨g, o, none⟩) 2 c4] 25)).heap.size (w4.alloc (.cells #[.int .i64 kT, .string nT, .int .i64 iT, .slice (some ⟨g, o, none⟩) 2 c4] 25)) w5 →
      w5.cell? ⟨w4.heap.size, 0, none⟩ = some (.int .i64 kT) ∧ w5.cell? ⟨w4.heap.size, 1, none⟩ = some (.string nT) ∧ w5.cell? ⟨w4.heap.size, 2, none⟩ = some (.int .i64 iT) ∧ w5.cell? ⟨w4.heap.size, 3, none⟩ = some (.slice (some ⟨g, o, none⟩) 2 c4) ∧ Below w4.heap.size w4 w5 ∧ w4.heap.size < w5.heap.size) := Lib.hid (fun w5 hb => by
    have hs := hb.size
    simp at hs
    exact ⟨by rw [hb.cell (by simp)]; simp, by rw [hb.cell (by simp)]; simp, by rw [hb.cell (by simp)]; simp, by rw [hb.cell (by simp)]; simp, (hbA.out _).trans (hb.mono (by simp)), by omega⟩)
  go_wp2_with fail
  refine (c_FreeVars TN _ w.heap.size w4.heap.size _ (HT6.out.below (hbA.out _) (Nat.le_refl _)) (by simp) hok6.out hsz6).mono ?_
  rintro e w5 ⟨v5, rfl, hv5, hb5⟩
  rw [hcv.out] at hv5
  obtain ⟨A7, c7, rfl, _, _, _, _, hr7⟩ := hv5
  obtain ⟨g7, o7, _, rfl, hg7, hc7⟩ := hr7.at_ (j := 0) (by simp)
  obtain ⟨x0, x1, x2, x3, hbb5, hlt5⟩ := HBX.out w5 hb5
  have hc7' : w5.cell? ⟨g7, o7, none⟩ = some (.int .i64 0) := hc7
  clear hb5 hr7 hc7 k0 k1 k2 k3
  simp only [List.length_cons, List.length_nil, Nat.zero_add]
  have HT5 := Lib.hid (HT4.out.below hbb5 (Nat.le_refl _))
  have hbw5 : Below w.heap.size w w5 := hbw4.trans (hbb5.mono (by omega))
  go_wp2_with fail
  refine (c_Validate tChk _ w.heap.size w4.heap.size G _ HT5.out (by omega) hokT.out (by decide) (HE.out.below hbw5 hG) (by omega)).mono ?_
  rintro e w6 ⟨rfl, hb6⟩
  rw [chk_validate]
  have y0 : w6.cell? ⟨w4.heap.size, 0, none⟩ = some (.int .i64 kT) := by rw [hb6.cell (by exact hlt5)]; exact x0
  have y1 : w6.cell? ⟨w4.heap.size, 1, none⟩ = some (.string nT) := by rw [hb6.cell (by exact hlt5)]; exact x1
  have y2 : w6.cell? ⟨w4.heap.size, 2, none⟩ = some (.int .i64 iT) := by rw [hb6.cell (by exact hlt5)]; exact x2
  have y3 : w6.cell? ⟨w4.heap.size, 3, none⟩ = some (.slice (some ⟨g, o, none⟩) 2 c4) := by rw [hb6.cell (by exact hlt5)]; exact x3
  have y4 : w6.cell? ⟨g7, o7, none⟩ = some (.int .i64 0) := by rw [hb6.cell (by exact hg7)]; exact hc7'
  have hs6 := hb6.size
  have hbw6 : Below w.heap.size w w6 := hbw5.trans (hb6.mono (by omega))
  have HT6' := Lib.hid (HT5.out.below hb6 (by omega))
  clear x0 x1 x2 x3 hc7' hb6 HT5
  go_wp2_with fail
  refine (c_FreeVars tChk _ w.heap.size w4.heap.size _ HT6'.out (by omega) hokT.out (by decide)).mono ?_
  rintro e w7 ⟨v7, rfl, hv7, hb7⟩
  rw [chk_fvs] at hv7
  obtain ⟨A8, c8, rfl, _⟩ := hv7
  simp only [List.length_nil]
  have z0 : w7.cell? ⟨w4.heap.size, 0, none⟩ = some (.int .i64 kT) := by rw [hb7.cell (by show w4.heap.size < _; omega)]; exact y0
  have z1 : w7.cell? ⟨w4.heap.size, 1, none⟩ = some (.string nT) := by rw [hb7.cell (by show w4.heap.size < _; omega)]; exact y1
  have z2 : w7.cell? ⟨w4.heap.size, 2, none⟩ = some (.int .i64 iT) := by rw [hb7.cell (by show w4.heap.size < _; omega)]; exact y2
  have z3 : w7.cell? ⟨w4.heap.size, 3, none⟩ = some (.slice (some ⟨g, o, none⟩) 2 c4) := by rw [hb7.cell (by show w4.heap.size < _; omega)]; exact y3
  have z4 : w7.cell? ⟨g7, o7, none⟩ = some (.int .i64 0) := by rw [hb7.cell (by show g7 < _; omega)]; exact y4
  have hs7 := hb7.size
  have hbw7 : Below w.heap.size w w7 := hbw6.trans (hb7.mono (by omega))
  have HT7 := Lib.hid (HT6'.out.below hb7 (by omega))
  clear y0 y1 y2 y3 y4 hb7 HT6'
  go_wp2_with fail
  refine (c_Size tChk.size tChk _ w.heap.size w4.heap.size _ (Nat.le_refl _) HT7.out (by omega) (by decide)).mono ?_
  rintro e w8 ⟨rfl, hb8⟩
  rw [chk_size]
  have u0 : w8.cell? ⟨w4.heap.size, 0, none⟩ = some (.int .i64 kT) := by rw [hb8.cell (by show w4.heap.size < _; omega)]; exact z0
  have u1 : w8.cell? ⟨w4.heap.size, 1, none⟩ = some (.string nT) := by rw [hb8.cell (by show w4.heap.size < _; omega)]; exact z1
  have u2 : w8.cell? ⟨w4.heap.size, 2, none⟩ = some (.int .i64 iT) := by rw [hb8.cell (by show w4.heap.size < _; omega)]; exact z2
  have u3 : w8.cell? ⟨w4.heap.size, 3, none⟩ = some (.slice (some ⟨g, o, none⟩) 2 c4) := by rw [hb8.cell (by show w4.heap.size < _; omega)]; exact z3
  have hs8 := hb8.size
  have hbw8 : Below w.heap.size w w8 := hbw7.trans (hb8.mono (by omega))
  have HT8 := Lib.hid (HT7.out.below hb8 (by omega))
  clear z0 z1 z2 z3 z4 hb8 HT7
  go_wp2_with fail
  refine (c_Depth tChk.size tChk _ w.heap.size w4.heap.size _ (Nat.le_refl _) HT8.out (by omega) (by decide)).mono ?_
  rintro e w9 ⟨rfl, hb9⟩
  rw [chk_depth]
  go_wp2
  go_ret
  exact ⟨rfl, hbw8.trans (hb9.mono (by omega))⟩
end Go.Proofs.YtdbflfakocaapaaDoor
