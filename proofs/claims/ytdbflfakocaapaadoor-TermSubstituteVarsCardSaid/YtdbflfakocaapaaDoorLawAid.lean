/- What the walks of TermSubstitute and TermSubstituteVars share. -/
import Derived.Test.YtdbflfakocaapaaDoorGen
import Derived.Test.YtdbflfakocaapaaDoorCompareN
import Derived.Test.YtdbflfakocaapaaDoorReplP
import Derived.Test.YtdbflfakocaapaaDoorHeld
namespace Go.Proofs.YtdbflfakocaapaaDoor
open Go.RowKit

theorem gpreA {w w1 w2 : World} {G n : Nat} {vd : Value} (hst : StreamR w1 w.heap.size n) (hb1 : Below w.heap.size w w1) (hs1 : w1.heap.size = w.heap.size + 1) (hd : DeclsIn w1.heap.size w2 vd) (hb2 : Below w1.heap.size w1 w2) (hN : EnvN 1 4 w G) (hG : G ≤ w.heap.size) : GPre w.heap.size n G vd w2 := by
  obtain ⟨g, hv, hl, hg, hds⟩ := hd
  exact ⟨hst.below hb2 (by omega), (hN.keep fun b hb => hb1.block b (by omega)).keep fun b hb => hb2.block b (by omega), hG, ⟨g, hv, by omega, hg, hds⟩⟩
theorem grownA {w w' : World} {sb B : Nat} (h : w.grownBy w' (some sb)) (h1 : B ≤ sb) (h2 : B ≤ w.heap.size) : Below B w w' :=
  ⟨h.os, h.tape, h.output, h.size, fun k hk => h.block k (by omega) (by intro e; injection e with e; omega)⟩
/-- The value u reads as the term t, somewhere in the world. -/
def TyAt (w : World) (t : Ty) (u : Value) : Prop := IsTy w 0 w.heap.size t u
theorem TyAt.grow {w w' : World} {t : Ty} {u : Value} (h : TyAt w t u) (hb : Below w.heap.size w w') : TyAt w' t u := (IsTy.below h hb (Nat.le_refl _)).more (Nat.le_refl _) hb.size
theorem IsTy.at {w : World} {L B : Nat} {t : Ty} {u : Value} (h : IsTy w L B t u) (hB : B ≤ w.heap.size) : TyAt w t u := h.more (Nat.zero_le _) hB
/-- A term has come back; nothing old has changed. -/
def RetT (T : Ty) (W : World) (e : Ending) (w' : World) : Prop := ∃ u, e = .returned u ∧ Hid (TyAt w' T u) ∧ Below W.heap.size W w'
theorem NewTy.ret {T : Ty} {W : World} (e : Ending) (w' : World) (h : NewTy T W e w') : RetT T W e w' := by
  obtain ⟨u, h1, h2, h3⟩ := h
  exact ⟨u, h1, Lib.hid (h2.at (Nat.le_refl _)), h3⟩
theorem c_EqualT (T : Ty) (W : World) (ua ub : Value) (hn : T.nar) (ha : TyAt W T ua) (hb : TyAt W T ub) : Calls Tryd.prog 37 #[ua, ub] W fun e w' => e = .returned (.bool true) ∧ Below W.heap.size W w' :=
  (c_EqualN T T W _ _ _ _ ua ub ha hb (Nat.le_refl _) (Nat.le_refl _) hn).mono fun e w' ⟨h1, h2⟩ => ⟨by rw [h1, Ty.cmp_self]; rfl, h2⟩
theorem c_TermEqualT (T : Ty) (W : World) (ua ub : Value) (hn : T.nar) (ha : TyAt W T ua) (hb : TyAt W T ub) : Calls Tryd.prog 39 #[ua, ub] W fun e w' => e = .returned (.bool true) ∧ Below W.heap.size W w' :=
  (c_TermEqualN T T W _ _ _ _ ua ub ha hb (Nat.le_refl _) (Nat.le_refl _) hn).mono fun e w' ⟨h1, h2⟩ => ⟨by rw [h1, Ty.cmp_self]; rfl, h2⟩
/-- Two terms in one row, as the composite literal lays them. -/
theorem two_tys {w : World} {L B : Nat} {a b : Ty} {Aa Ab : Option Addr} {ca cb : Nat} (ha : IsTy w L B a (.agg #[.int .i64 a.kind, .string a.name, .int .i64 a.index, .slice Aa a.args.length ca])) (hb : IsTy w L B b (.agg #[.int .i64 b.kind, .string b.name, .int .i64 b.index, .slice Ab b.args.length cb])) (hB : B ≤ w.heap.size) :
    ∀ W : World, W = w.alloc (.cells #[.int .i64 a.kind, .string a.name, .int .i64 a.index, .slice Aa a.args.length ca, .int .i64 b.kind, .string b.name, .int .i64 b.index, .slice Ab b.args.length cb] 25) →
    IsTyl W 0 W.heap.size [a, b] (.slice (some ⟨w.heap.size, 0, none⟩) 2 2) ∧ Below w.heap.size w W ∧ w.heap.size < W.heap.size ∧ (W.cell? ⟨w.heap.size, 0, none⟩ = some (.int .i64 a.kind) ∧ W.cell? ⟨w.heap.size, 1, none⟩ = some (.string a.name) ∧ W.cell? ⟨w.heap.size, 2, none⟩ = some (.int .i64 a.index) ∧ W.cell? ⟨w.heap.size, 3, none⟩ = some (.slice Aa a.args.length ca)) := by
  rintro W rfl
  have hn := blk_new w (.cells #[.int .i64 a.kind, .string a.name, .int .i64 a.index, .slice Aa a.args.length ca, .int .i64 b.kind, .string b.name, .int .i64 b.index, .slice Ab b.args.length cb] 25)
  have hb' := below_new w (.cells #[.int .i64 a.kind, .string a.name, .int .i64 a.index, .slice Aa a.args.length ca, .int .i64 b.kind, .string b.name, .int .i64 b.index, .slice Ab b.args.length cb] 25)
  generalize w.alloc _ = W at *
  have hs := hb'.size
  have hlt := blk_lt' hn
  have hc : ∀ i, W.cell? ⟨w.heap.size, i, none⟩ = #[Value.int .i64 a.kind, .string a.name, .int .i64 a.index, .slice Aa a.args.length ca, .int .i64 b.kind, .string b.name, .int .i64 b.index, .slice Ab b.args.length cb][i]? := fun i => cell_of_row W w.heap.size i _ _ _ hn
  refine ⟨⟨_, _, rfl, Nat.le_refl _, .inr ⟨w.heap.size, 0, rfl, Nat.zero_le _, hlt, ?_⟩⟩, hb', hlt, hc 0, hc 1, hc 2, hc 3⟩
  unfold IsTys IsTys IsTys
  exact ⟨⟨_, _, _, _, hc 0, hc 1, hc 2, hc 3, (ha.below hb' hB).more (Nat.zero_le _) (by omega)⟩, ⟨_, _, _, _, hc 4, hc 5, hc 6, hc 7, (hb.below hb' hB).more (Nat.zero_le _) (by omega)⟩, trivial⟩
end Go.Proofs.YtdbflfakocaapaaDoor
