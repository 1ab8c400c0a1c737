/- The contracts of telmake.term, named, arg, tied together; of Term and OpenTerm. -/
import Derived.Test.YtdbflfakocaapaaDoorGenT
import Derived.Test.YtdbflfakocaapaaDoorGenA
namespace Go.Proofs.YtdbflfakocaapaaDoor
open Go.RowKit
attribute [local go_sem ↓] Go.wp_at_zero Go.wp_at_succ

def TT (r : Nat) : Prop := ∀ (D : Nat) (V : Int), D ≤ 8 → 0 ≤ V → V + D ≤ 40 → GenAt 53 D V r
def NN (r : Nat) : Prop := ∀ (D : Nat) (V : Int), D ≤ 8 → 0 ≤ V → V + D ≤ 40 → GenAt 75 D V r
theorem gen_all (r : Nat) : TT r ∧ NN r := by
  induction r using Nat.strongRecOn with
  | _ r ihr =>
    have key : ∀ D : Nat, D ≤ 8 → (∀ V : Int, 0 ≤ V → V + D ≤ 40 → GenAt 53 D V r) ∧ (∀ V : Int, 0 ≤ V → V + D ≤ 40 → GenAt 75 D V r) := by
      intro D
      induction D using Nat.strongRecOn with
      | _ D ih =>
        intro hD
        have hN : ∀ V : Int, 0 ≤ V → V + D ≤ 40 → GenAt 75 D V r := by
          intro V hV hVD
          refine named_walk D V r (by omega) (by omega) hV (by omega) fun r1 hr1 => ?_
          refine arg_walk (D - 1) V r1 (by omega) hV (by omega) (fun hd r2 hr2 => ?_) (fun hd r2 hr2 => ?_)
          · have e : (D : Int) - 1 = ((D - 1 : Nat) : Int) := by omega
            rw [e]
            rcases Nat.lt_or_ge r2 r with h | h
            · exact (ihr r2 h).2 (D - 1) V (by omega) hV (by omega)
            · obtain rfl : r2 = r := by omega
              exact (ih (D - 1) (by omega) (by omega)).2 V hV (by omega)
          · have e : (D : Int) - 1 - 1 = ((D - 2 : Nat) : Int) := by omega
            rw [e]
            rcases Nat.lt_or_ge r2 r with h | h
            · exact (ihr r2 h).1 (D - 2) 0 (by omega) (by omega) (by omega)
            · obtain rfl : r2 = r := by omega
              exact (ih (D - 2) (by omega) (by omega)).1 0 (by omega) (by omega)
        refine ⟨fun V hV hVD => ?_, hN⟩
        refine term_walk D V r (by omega) (by omega) hV (by omega) (fun r1 hr1 => ?_) (fun hd V' r1 hV0 hV1 hr1 => ?_) (fun r1 hr1 => ?_)
        · rcases Nat.lt_or_ge r1 r with h | h
          · exact (ihr r1 h).2 D V (by omega) hV (by omega)
          · obtain rfl : r1 = r := by omega
            exact hN V hV hVD
        · have e : (D : Int) - 1 = ((D - 1 : Nat) : Int) := by omega
          rw [e]
          rcases Nat.lt_or_ge r1 r with h | h
          · exact (ihr r1 h).1 (D - 1) V' (by omega) hV0 (by omega)
          · obtain rfl : r1 = r := by omega
            exact (ih (D - 1) (by omega) (by omega)).1 V' hV0 (by omega)
        · exact (ihr r1 hr1).1 1 0 (by omega) (by omega) (by omega)
    exact ⟨fun D V h1 h2 h3 => (key D h1).1 V h2 h3, fun D V h1 h2 h3 => (key D h1).2 V h2 h3⟩

set_option maxHeartbeats 1000000 in
theorem c_Term (w : World) (sb r G : Nat) (vd : Value) (hpre : GPre sb r G vd w) : Calls Tryd.prog 38 #[.pointer (some ⟨sb, 0, none⟩), vd] w (GenR 0 sb r w) := by
  have HG0 := Lib.hid (GS.start hpre)
  have HT : Hid (∀ r1, GenAt 53 ((3 : Nat) : Int) 0 r1) := Lib.hid (fun r1 => (gen_all r1).1 3 0 (by omega) (by omega) (by omega))
  clear hpre
  go_enter Tryd.func38, Tryd.ntmps38
  go_wp2_with fail
  refine (HT.out r _ sb G vd HG0.out.pre).mono ?_
  rintro e w4 ⟨T, A4, c4, r4, rfl, hty4, hgd4, hr4, hst4, hg4⟩
  have hgs4 := HG0.out.step hg4 hst4 hr4
  obtain ⟨⟨z0, z1, z2, z3⟩, f0, f1, f2, f3⟩ := box_frozen hgs4.box
  have HFB := Lib.hid (hgs4.fin (V := 0) (hty4.more (by simp) (Nat.le_refl _)) hgd4)
  clear hgs4 hty4 hgd4 hst4 hg4
  go_wp2
  generalize hWF : (((w4.setCell _ _).setCell _ _).setCell _ _).setCell _ _ = WF
  obtain ⟨hfin, zz0, zz1, zz2, zz3⟩ := HFB.out WF hWF.symm
  clear hWF
  exact bodyPost_ret (v := .agg #[.int .i64 T.kind, .string T.name, .int .i64 T.index, .slice A4 T.args.length c4]) (by simp [results, Tryd.results38, go_sem, zz0, zz1, zz2, zz3]) rfl hfin.out
set_option maxHeartbeats 1000000 in
theorem c_OpenTerm (V : Int) (hV0 : 0 ≤ V) (hV : V ≤ 20) (w : World) (sb r G : Nat) (vd : Value) (hpre : GPre sb r G vd w) : Calls Tryd.prog 17 #[.pointer (some ⟨sb, 0, none⟩), vd, .int .i64 V] w (GenR V sb r w) := by
  have HG0 := Lib.hid (GS.start hpre)
  have HT : Hid (∀ r1, GenAt 53 ((3 : Nat) : Int) V r1) := Lib.hid (fun r1 => (gen_all r1).1 3 V (by omega) (by omega) (by omega))
  clear hpre
  go_enter Tryd.func17, Tryd.ntmps17
  go_wp2_with fail
  refine (HT.out r _ sb G vd HG0.out.pre).mono ?_
  rintro e w4 ⟨T, A4, c4, r4, rfl, hty4, hgd4, hr4, hst4, hg4⟩
  have hgs4 := HG0.out.step hg4 hst4 hr4
  obtain ⟨⟨z0, z1, z2, z3⟩, f0, f1, f2, f3⟩ := box_frozen hgs4.box
  have HFB := Lib.hid (hgs4.fin (V := V) (hty4.more (by simp) (Nat.le_refl _)) hgd4)
  clear hgs4 hty4 hgd4 hst4 hg4
  go_wp2
  generalize hWF : (((w4.setCell _ _).setCell _ _).setCell _ _).setCell _ _ = WF
  obtain ⟨hfin, zz0, zz1, zz2, zz3⟩ := HFB.out WF hWF.symm
  clear hWF
  exact bodyPost_ret (v := .agg #[.int .i64 T.kind, .string T.name, .int .i64 T.index, .slice A4 T.args.length c4]) (by simp [results, Tryd.results17, go_sem, zz0, zz1, zz2, zz3]) rfl hfin.out
end Go.Proofs.YtdbflfakocaapaaDoor
