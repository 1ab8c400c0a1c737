/- The walk of tellaw2.TermExamples: it returns true. -/
import Derived.Test.YtdbflfakocaapaaDoorCons2
import Derived.Test.YtdbflfakocaapaaDoorSub2
import Derived.Test.YtdbflfakocaapaaDoorCompare
import Derived.Test.YtdbflfakocaapaaDoorHeld
namespace Go.Proofs.YtdbflfakocaapaaDoor
open Go.RowKit
attribute [local go_sem ↓] Go.wp_at_zero Go.wp_at_succ

mutual
def Ty.okb : Ty → Bool
  | ⟨k, _, ix, args⟩ => decide (-9223372036854775808 ≤ k) && decide (k ≤ 9223372036854775807) && decide (-9223372036854775808 ≤ ix) && decide (ix ≤ 9223372036854775807) && Ty.okbs args
def Ty.okbs : List Ty → Bool
  | [] => true
  | t :: ts => Ty.okb t && Ty.okbs ts
 end
mutual
theorem Ty.ok_of_okb : ∀ t : Ty, t.okb = true → t.ok
  | ⟨k, _, ix, args⟩, h => by
    unfold Ty.okb at h
    simp only [Bool.and_eq_true, decide_eq_true_eq] at h
    unfold Ty.ok
    exact ⟨⟨h.1.1.1.1, h.1.1.1.2⟩, ⟨h.1.1.2, h.1.2⟩, Ty.oks_of_okbs args h.2⟩
theorem Ty.oks_of_okbs : ∀ ts : List Ty, Ty.okbs ts = true → Ty.oks ts
  | [], _ => by unfold Ty.oks; trivial
  | t :: ts, h => by
    unfold Ty.okbs at h
    simp only [Bool.and_eq_true] at h
    unfold Ty.oks
    exact ⟨Ty.ok_of_okb t h.1, Ty.oks_of_okbs ts h.2⟩
 end
mutual
theorem Ty.nar_of_size : ∀ t : Ty, t.size ≤ 2 ^ 40 → t.nar
  | ⟨_, _, _, args⟩, h => by
    unfold Ty.size at h
    have := Ty.len_le args
    unfold Ty.nar
    exact ⟨by omega, Ty.nars_of_size args (by omega)⟩
theorem Ty.nars_of_size : ∀ ts : List Ty, Ty.sizes ts ≤ 2 ^ 40 → Ty.nars ts
  | [], _ => by unfold Ty.nars; trivial
  | t :: ts, h => by
    unfold Ty.sizes at h
    unfold Ty.nars
    exact ⟨Ty.nar_of_size t (by omega), Ty.nars_of_size ts (by omega)⟩
 end
/-- As RetTy, the term being a letter. -/
def RetX (L : Nat) (t : Ty) (w : World) (e : Ending) (w' : World) : Prop := ∃ (T : Ty) (A : Option Addr) (c : Nat), Hid (T = t) ∧ e = .returned (.agg #[.int .i64 T.kind, .string T.name, .int .i64 T.index, .slice A T.args.length c]) ∧ Hid (IsTy w' L w'.heap.size T (.agg #[.int .i64 T.kind, .string T.name, .int .i64 T.index, .slice A T.args.length c])) ∧ Below w.heap.size w w'
theorem RetTy.x {L : Nat} {t : Ty} {w : World} (e : Ending) (w' : World) (h : RetTy L t w e w') : RetX L t w e w' := by
  obtain ⟨A, c, h1, h2, h3⟩ := h
  exact ⟨t, A, c, Lib.hid rfl, h1, Lib.hid h2, h3⟩
theorem NewTy.x {L : Nat} {t : Ty} {w : World} (hL : L ≤ w.heap.size) (e : Ending) (w' : World) (h : NewTy t w e w') : RetX L t w e w' := by
  obtain ⟨u, h1, h2, h3⟩ := h
  obtain ⟨A, c, rfl, _⟩ := h2.args_
  exact ⟨t, A, c, Lib.hid rfl, h1, Lib.hid (h2.more hL (Nat.le_refl _)), h3⟩
def sPair : ByteArray := ⟨#[80, 97, 105, 114]⟩
def sInt' : ByteArray := ⟨#[73, 110, 116]⟩
def sTup : ByteArray := ⟨#[116, 117, 112, 108, 101]⟩

set_option maxRecDepth 20000 in
set_option maxHeartbeats 8000000 in
theorem c_lawTermExamples (w : World) (G : Nat) (hE : EnvR w G) (hG : G ≤ w.heap.size) :
    Calls Tryd.prog 9 #[] w fun e w' => e = .returned (.bool true) ∧ Below w.heap.size w w' := by
  have HE := Lib.hid hE
  clear hE
  have hz : Below w.heap.size w w := Below.refl _ _
  go_enter Tryd.func9, Tryd.ntmps9
  go_wp2_with fail
  refine ((c_Var w.heap.size 0 _).mono RetTy.x).mono ?_
  rintro e w1 ⟨T1, A1, c1, ht1, rfl, HT1, hb⟩
  have hs : Below w.heap.size w w1 := hb
  replace hz := below_step hz hs
  clear hs hb
  have HSL : Hid (∀ W : World, W = w1.alloc (.cells #[.int .i64 T1.kind, .string T1.name, .int .i64 T1.index, .slice A1 T1.args.length c1] 25) → IsTyl W w.heap.size W.heap.size [T1] (.slice (some ⟨w1.heap.size, 0, none⟩) 1 1)) := Lib.hid (fun W hW => by
    subst hW
    exact IsTyl.one (blk_new _ _) hz.size (by simp) ((HT1.out.below (below_new _ _) (Nat.le_refl _)).more (Nat.le_refl _) (by simp)) 1)
  go_wp2_with fail
  refine ((c_Named w.heap.size sBox [T1] _ _ (HSL.out _ rfl)).mono RetTy.x).mono ?_
  rintro e w2 ⟨T2, A2, c2, ht2, rfl, HT2, hb⟩
  have hs : Below w1.heap.size w1 w2 := below_step (below_new _ _) hb
  clear HT1
  replace hz := below_step hz hs
  clear HSL
  clear hs hb
  go_wp2_with fail
  refine ((c_Var w.heap.size 0 _).mono RetTy.x).mono ?_
  rintro e w3 ⟨T3, A3, c3, ht3, rfl, HT3, hb⟩
  have hs : Below w2.heap.size w2 w3 := below_step (below_new _ _) hb
  have HB1 := Lib.hid ((hb.block w2.heap.size (by simp)).trans (blk_new w2 (.cells #[.int .i64 T2.kind, .string T2.name, .int .i64 T2.index, .slice A2 T2.args.length c2] 25)))
  replace HT2 := Lib.hid ((HT2.out.below hs (Nat.le_refl _)).more (Nat.le_refl _) hs.size)
  replace hz := below_step hz hs
  clear hs hb
  have HSL : Hid (∀ W : World, W = w3.alloc (.cells #[.int .i64 T3.kind, .string T3.name, .int .i64 T3.index, .slice A3 T3.args.length c3] 25) → IsTyl W w.heap.size W.heap.size [T3] (.slice (some ⟨w3.heap.size, 0, none⟩) 1 1)) := Lib.hid (fun W hW => by
    subst hW
    exact IsTyl.one (blk_new _ _) hz.size (by simp) ((HT3.out.below (below_new _ _) (Nat.le_refl _)).more (Nat.le_refl _) (by simp)) 1)
  go_wp2_with fail
  refine ((c_Tuple w.heap.size [T3] _ _ (HSL.out _ rfl)).mono RetTy.x).mono ?_
  rintro e w4 ⟨T4, A4, c4, ht4, rfl, HT4, hb⟩
  have hs : Below w3.heap.size w3 w4 := below_step (below_new _ _) hb
  replace HB1 := Lib.hid ((hs.block _ (blk_lt' HB1.out)).trans HB1.out)
  replace HT2 := Lib.hid ((HT2.out.below hs (Nat.le_refl _)).more (Nat.le_refl _) hs.size)
  clear HT3
  replace hz := below_step hz hs
  clear HSL
  clear hs hb
  have HSL : Hid (∀ W : World, W = w4.alloc (.cells #[.int .i64 T4.kind, .string T4.name, .int .i64 T4.index, .slice A4 T4.args.length c4] 25) → IsTyl W w.heap.size W.heap.size [T4] (.slice (some ⟨w4.heap.size, 0, none⟩) 1 1)) := Lib.hid (fun W hW => by
    subst hW
    exact IsTyl.one (blk_new _ _) hz.size (by simp) ((HT4.out.below (below_new _ _) (Nat.le_refl _)).more (Nat.le_refl _) (by simp)) 1)
  go_wp2_with fail
  refine ((c_Named w.heap.size sBox [T4] _ _ (HSL.out _ rfl)).mono RetTy.x).mono ?_
  rintro e w5 ⟨T5, A5, c5, ht5, rfl, HT5, hb⟩
  have hs : Below w4.heap.size w4 w5 := below_step (below_new _ _) hb
  replace HB1 := Lib.hid ((hs.block _ (blk_lt' HB1.out)).trans HB1.out)
  replace HT2 := Lib.hid ((HT2.out.below hs (Nat.le_refl _)).more (Nat.le_refl _) hs.size)
  clear HT4
  replace hz := below_step hz hs
  clear HSL
  clear hs hb
  go_wp2_with fail
  refine ((c_Var w.heap.size 0 _).mono RetTy.x).mono ?_
  rintro e w6 ⟨T6, A6, c6, ht6, rfl, HT6, hb⟩
  have hs : Below w5.heap.size w5 w6 := below_step (below_new _ _) hb
  have HB2 := Lib.hid ((hb.block w5.heap.size (by simp)).trans (blk_new w5 (.cells #[.int .i64 T5.kind, .string T5.name, .int .i64 T5.index, .slice A5 T5.args.length c5] 25)))
  replace HB1 := Lib.hid ((hs.block _ (blk_lt' HB1.out)).trans HB1.out)
  replace HT2 := Lib.hid ((HT2.out.below hs (Nat.le_refl _)).more (Nat.le_refl _) hs.size)
  replace HT5 := Lib.hid ((HT5.out.below hs (Nat.le_refl _)).more (Nat.le_refl _) hs.size)
  replace hz := below_step hz hs
  clear hs hb
  go_wp2_with fail
  refine ((c_Var w.heap.size 2 _).mono RetTy.x).mono ?_
  rintro e w7 ⟨T7, A7, c7, ht7, rfl, HT7, hb⟩
  have hs : Below w6.heap.size w6 w7 := hb
  replace HB1 := Lib.hid ((hs.block _ (blk_lt' HB1.out)).trans HB1.out)
  replace HB2 := Lib.hid ((hs.block _ (blk_lt' HB2.out)).trans HB2.out)
  replace HT2 := Lib.hid ((HT2.out.below hs (Nat.le_refl _)).more (Nat.le_refl _) hs.size)
  replace HT5 := Lib.hid ((HT5.out.below hs (Nat.le_refl _)).more (Nat.le_refl _) hs.size)
  replace HT6 := Lib.hid ((HT6.out.below hs (Nat.le_refl _)).more (Nat.le_refl _) hs.size)
  replace hz := below_step hz hs
  clear hs hb
  go_wp2_with fail
  refine ((c_Any w.heap.size _).mono RetTy.x).mono ?_
  rintro e w8 ⟨T8, A8, c8, ht8, rfl, HT8, hb⟩
  have hs : Below w7.heap.size w7 w8 := hb
  replace HB1 := Lib.hid ((hs.block _ (blk_lt' HB1.out)).trans HB1.out)
  replace HB2 := Lib.hid ((hs.block _ (blk_lt' HB2.out)).trans HB2.out)
  replace HT2 := Lib.hid ((HT2.out.below hs (Nat.le_refl _)).more (Nat.le_refl _) hs.size)
  replace HT5 := Lib.hid ((HT5.out.below hs (Nat.le_refl _)).more (Nat.le_refl _) hs.size)
  replace HT6 := Lib.hid ((HT6.out.below hs (Nat.le_refl _)).more (Nat.le_refl _) hs.size)
  replace HT7 := Lib.hid ((HT7.out.below hs (Nat.le_refl _)).more (Nat.le_refl _) hs.size)
  replace hz := below_step hz hs
  clear hs hb
  go_wp2_with fail
  refine ((c_Var w.heap.size 0 _).mono RetTy.x).mono ?_
  rintro e w9 ⟨T9, A9, c9, ht9, rfl, HT9, hb⟩
  have hs : Below w8.heap.size w8 w9 := hb
  replace HB1 := Lib.hid ((hs.block _ (blk_lt' HB1.out)).trans HB1.out)
  replace HB2 := Lib.hid ((hs.block _ (blk_lt' HB2.out)).trans HB2.out)
  replace HT2 := Lib.hid ((HT2.out.below hs (Nat.le_refl _)).more (Nat.le_refl _) hs.size)
  replace HT5 := Lib.hid ((HT5.out.below hs (Nat.le_refl _)).more (Nat.le_refl _) hs.size)
  replace HT6 := Lib.hid ((HT6.out.below hs (Nat.le_refl _)).more (Nat.le_refl _) hs.size)
  replace HT7 := Lib.hid ((HT7.out.below hs (Nat.le_refl _)).more (Nat.le_refl _) hs.size)
  replace HT8 := Lib.hid ((HT8.out.below hs (Nat.le_refl _)).more (Nat.le_refl _) hs.size)
  replace hz := below_step hz hs
  clear hs hb
  go_wp2_with fail
  refine ((c_Var w.heap.size 1 _).mono RetTy.x).mono ?_
  rintro e w10 ⟨T10, A10, c10, ht10, rfl, HT10, hb⟩
  have hs : Below w9.heap.size w9 w10 := hb
  replace HB1 := Lib.hid ((hs.block _ (blk_lt' HB1.out)).trans HB1.out)
  replace HB2 := Lib.hid ((hs.block _ (blk_lt' HB2.out)).trans HB2.out)
  replace HT2 := Lib.hid ((HT2.out.below hs (Nat.le_refl _)).more (Nat.le_refl _) hs.size)
  replace HT5 := Lib.hid ((HT5.out.below hs (Nat.le_refl _)).more (Nat.le_refl _) hs.size)
  replace HT6 := Lib.hid ((HT6.out.below hs (Nat.le_refl _)).more (Nat.le_refl _) hs.size)
  replace HT7 := Lib.hid ((HT7.out.below hs (Nat.le_refl _)).more (Nat.le_refl _) hs.size)
  replace HT8 := Lib.hid ((HT8.out.below hs (Nat.le_refl _)).more (Nat.le_refl _) hs.size)
  replace HT9 := Lib.hid ((HT9.out.below hs (Nat.le_refl _)).more (Nat.le_refl _) hs.size)
  replace hz := below_step hz hs
  clear hs hb
  have HSL : Hid (∀ W : World, W = w10.alloc (.cells #[.int .i64 T9.kind, .string T9.name, .int .i64 T9.index, .slice A9 T9.args.length c9, .int .i64 T10.kind, .string T10.name, .int .i64 T10.index, .slice A10 T10.args.length c10] 25) → IsTyl W w.heap.size W.heap.size [T9, T10] (.slice (some ⟨w10.heap.size, 0, none⟩) 2 2)) := Lib.hid (fun W hW => by
    subst hW
    exact IsTyl.two (blk_new _ _) hz.size (by simp) ((HT9.out.below (below_new _ _) (Nat.le_refl _)).more (Nat.le_refl _) (by simp)) ((HT10.out.below (below_new _ _) (Nat.le_refl _)).more (Nat.le_refl _) (by simp)) 2)
  go_wp2_with fail
  refine ((c_Named w.heap.size sPair [T9, T10] _ _ (HSL.out _ rfl)).mono RetTy.x).mono ?_
  rintro e w11 ⟨T11, A11, c11, ht11, rfl, HT11, hb⟩
  have hs : Below w10.heap.size w10 w11 := below_step (below_new _ _) hb
  replace HB1 := Lib.hid ((hs.block _ (blk_lt' HB1.out)).trans HB1.out)
  replace HB2 := Lib.hid ((hs.block _ (blk_lt' HB2.out)).trans HB2.out)
  replace HT2 := Lib.hid ((HT2.out.below hs (Nat.le_refl _)).more (Nat.le_refl _) hs.size)
  replace HT5 := Lib.hid ((HT5.out.below hs (Nat.le_refl _)).more (Nat.le_refl _) hs.size)
  replace HT6 := Lib.hid ((HT6.out.below hs (Nat.le_refl _)).more (Nat.le_refl _) hs.size)
  replace HT7 := Lib.hid ((HT7.out.below hs (Nat.le_refl _)).more (Nat.le_refl _) hs.size)
  replace HT8 := Lib.hid ((HT8.out.below hs (Nat.le_refl _)).more (Nat.le_refl _) hs.size)
  clear HT9
  clear HT10
  replace hz := below_step hz hs
  clear HSL
  clear hs hb
  go_wp2_with fail
  refine ((c_Exists w.heap.size T8 T11 _ _ _ HT8.out HT11.out hz.size).mono RetTy.x).mono ?_
  rintro e w12 ⟨T12, A12, c12, ht12, rfl, HT12, hb⟩
  have hs : Below w11.heap.size w11 w12 := hb
  replace HB1 := Lib.hid ((hs.block _ (blk_lt' HB1.out)).trans HB1.out)
  replace HB2 := Lib.hid ((hs.block _ (blk_lt' HB2.out)).trans HB2.out)
  replace HT2 := Lib.hid ((HT2.out.below hs (Nat.le_refl _)).more (Nat.le_refl _) hs.size)
  replace HT5 := Lib.hid ((HT5.out.below hs (Nat.le_refl _)).more (Nat.le_refl _) hs.size)
  replace HT6 := Lib.hid ((HT6.out.below hs (Nat.le_refl _)).more (Nat.le_refl _) hs.size)
  replace HT7 := Lib.hid ((HT7.out.below hs (Nat.le_refl _)).more (Nat.le_refl _) hs.size)
  clear HT8
  clear HT11
  replace hz := below_step hz hs
  clear hs hb
  have HSL : Hid (∀ W : World, W = w12.alloc (.cells #[.int .i64 T6.kind, .string T6.name, .int .i64 T6.index, .slice A6 T6.args.length c6, .int .i64 T7.kind, .string T7.name, .int .i64 T7.index, .slice A7 T7.args.length c7, .int .i64 T12.kind, .string T12.name, .int .i64 T12.index, .slice A12 T12.args.length c12] 25) → IsTyl W w.heap.size W.heap.size [T6, T7, T12] (.slice (some ⟨w12.heap.size, 0, none⟩) 3 3)) := Lib.hid (fun W hW => by
    subst hW
    exact IsTyl.three (blk_new _ _) hz.size (by simp) ((HT6.out.below (below_new _ _) (Nat.le_refl _)).more (Nat.le_refl _) (by simp)) ((HT7.out.below (below_new _ _) (Nat.le_refl _)).more (Nat.le_refl _) (by simp)) ((HT12.out.below (below_new _ _) (Nat.le_refl _)).more (Nat.le_refl _) (by simp)) 3)
  go_wp2_with fail
  refine ((c_Tuple w.heap.size [T6, T7, T12] _ _ (HSL.out _ rfl)).mono RetTy.x).mono ?_
  rintro e w13 ⟨T13, A13, c13, ht13, rfl, HT13, hb⟩
  have hs : Below w12.heap.size w12 w13 := below_step (below_new _ _) hb
  replace HB1 := Lib.hid ((hs.block _ (blk_lt' HB1.out)).trans HB1.out)
  replace HB2 := Lib.hid ((hs.block _ (blk_lt' HB2.out)).trans HB2.out)
  replace HT2 := Lib.hid ((HT2.out.below hs (Nat.le_refl _)).more (Nat.le_refl _) hs.size)
  replace HT5 := Lib.hid ((HT5.out.below hs (Nat.le_refl _)).more (Nat.le_refl _) hs.size)
  clear HT6
  clear HT7
  clear HT12
  replace hz := below_step hz hs
  clear HSL
  clear hs hb
  go_wp2_with fail
  refine ((c_Named w.heap.size sInt' [] _ _ (IsTyl.nil none 0)).mono RetTy.x).mono ?_
  rintro e w14 ⟨T14, A14, c14, ht14, rfl, HT14, hb⟩
  have hs : Below w13.heap.size w13 w14 := hb
  replace HB1 := Lib.hid ((hs.block _ (blk_lt' HB1.out)).trans HB1.out)
  replace HB2 := Lib.hid ((hs.block _ (blk_lt' HB2.out)).trans HB2.out)
  replace HT2 := Lib.hid ((HT2.out.below hs (Nat.le_refl _)).more (Nat.le_refl _) hs.size)
  replace HT5 := Lib.hid ((HT5.out.below hs (Nat.le_refl _)).more (Nat.le_refl _) hs.size)
  replace HT13 := Lib.hid ((HT13.out.below hs (Nat.le_refl _)).more (Nat.le_refl _) hs.size)
  replace hz := below_step hz hs
  clear hs hb
  go_wp2_with fail
  have hsA : T13.size ≤ 1000 := by rw [ht13.out, ht6.out, ht7.out, ht12.out, ht8.out, ht11.out, ht9.out, ht10.out]; decide
  have hsB : T14.size ≤ 1000 := by rw [ht14.out]; decide
  have hoA : Hid T13.ok := Lib.hid (Ty.ok_of_okb _ (by rw [ht13.out, ht6.out, ht7.out, ht12.out, ht8.out, ht11.out, ht9.out, ht10.out]; decide))
  refine ((c_Substitute T13 T14 _ _ _ _ _ _ _ HT13.out HT14.out (Nat.le_refl _) (Nat.le_refl _) (Ty.nar_of_size _ (by omega)) (Ty.nar_of_size _ (by omega)) hoA.out (by omega) (by omega)).mono (NewTy.x hz.size)).mono ?_
  rintro e w15 ⟨T15, A15, c15, ht15, rfl, HT15, hb⟩
  clear hsA hsB hoA
  have hs : Below w14.heap.size w14 w15 := hb
  replace HB1 := Lib.hid ((hs.block _ (blk_lt' HB1.out)).trans HB1.out)
  replace HB2 := Lib.hid ((hs.block _ (blk_lt' HB2.out)).trans HB2.out)
  replace HT2 := Lib.hid ((HT2.out.below hs (Nat.le_refl _)).more (Nat.le_refl _) hs.size)
  replace HT5 := Lib.hid ((HT5.out.below hs (Nat.le_refl _)).more (Nat.le_refl _) hs.size)
  clear HT13
  clear HT14
  replace hz := below_step hz hs
  clear hs hb
  go_wp2_with fail
  refine ((c_Named w.heap.size sInt' [] _ _ (IsTyl.nil none 0)).mono RetTy.x).mono ?_
  rintro e w16 ⟨T16, A16, c16, ht16, rfl, HT16, hb⟩
  have hs : Below w15.heap.size w15 w16 := below_step (below_new _ _) hb
  have HB3 := Lib.hid ((hb.block w15.heap.size (by simp)).trans (blk_new w15 (.cells #[.int .i64 T15.kind, .string T15.name, .int .i64 T15.index, .slice A15 T15.args.length c15] 25)))
  replace HB1 := Lib.hid ((hs.block _ (blk_lt' HB1.out)).trans HB1.out)
  replace HB2 := Lib.hid ((hs.block _ (blk_lt' HB2.out)).trans HB2.out)
  replace HT2 := Lib.hid ((HT2.out.below hs (Nat.le_refl _)).more (Nat.le_refl _) hs.size)
  replace HT5 := Lib.hid ((HT5.out.below hs (Nat.le_refl _)).more (Nat.le_refl _) hs.size)
  replace HT15 := Lib.hid ((HT15.out.below hs (Nat.le_refl _)).more (Nat.le_refl _) hs.size)
  replace hz := below_step hz hs
  clear hs hb
  go_wp2_with fail
  refine ((c_Var w.heap.size 1 _).mono RetTy.x).mono ?_
  rintro e w17 ⟨T17, A17, c17, ht17, rfl, HT17, hb⟩
  have hs : Below w16.heap.size w16 w17 := hb
  replace HB1 := Lib.hid ((hs.block _ (blk_lt' HB1.out)).trans HB1.out)
  replace HB2 := Lib.hid ((hs.block _ (blk_lt' HB2.out)).trans HB2.out)
  replace HB3 := Lib.hid ((hs.block _ (blk_lt' HB3.out)).trans HB3.out)
  replace HT2 := Lib.hid ((HT2.out.below hs (Nat.le_refl _)).more (Nat.le_refl _) hs.size)
  replace HT5 := Lib.hid ((HT5.out.below hs (Nat.le_refl _)).more (Nat.le_refl _) hs.size)
  replace HT15 := Lib.hid ((HT15.out.below hs (Nat.le_refl _)).more (Nat.le_refl _) hs.size)
  replace HT16 := Lib.hid ((HT16.out.below hs (Nat.le_refl _)).more (Nat.le_refl _) hs.size)
  replace hz := below_step hz hs
  clear hs hb
  go_wp2_with fail
  refine ((c_Any w.heap.size _).mono RetTy.x).mono ?_
  rintro e w18 ⟨T18, A18, c18, ht18, rfl, HT18, hb⟩
  have hs : Below w17.heap.size w17 w18 := hb
  replace HB1 := Lib.hid ((hs.block _ (blk_lt' HB1.out)).trans HB1.out)
  replace HB2 := Lib.hid ((hs.block _ (blk_lt' HB2.out)).trans HB2.out)
  replace HB3 := Lib.hid ((hs.block _ (blk_lt' HB3.out)).trans HB3.out)
  replace HT2 := Lib.hid ((HT2.out.below hs (Nat.le_refl _)).more (Nat.le_refl _) hs.size)
  replace HT5 := Lib.hid ((HT5.out.below hs (Nat.le_refl _)).more (Nat.le_refl _) hs.size)
  replace HT15 := Lib.hid ((HT15.out.below hs (Nat.le_refl _)).more (Nat.le_refl _) hs.size)
  replace HT16 := Lib.hid ((HT16.out.below hs (Nat.le_refl _)).more (Nat.le_refl _) hs.size)
  replace HT17 := Lib.hid ((HT17.out.below hs (Nat.le_refl _)).more (Nat.le_refl _) hs.size)
  replace hz := below_step hz hs
  clear hs hb
  go_wp2_with fail
  refine ((c_Var w.heap.size 0 _).mono RetTy.x).mono ?_
  rintro e w19 ⟨T19, A19, c19, ht19, rfl, HT19, hb⟩
  have hs : Below w18.heap.size w18 w19 := hb
  replace HB1 := Lib.hid ((hs.block _ (blk_lt' HB1.out)).trans HB1.out)
  replace HB2 := Lib.hid ((hs.block _ (blk_lt' HB2.out)).trans HB2.out)
  replace HB3 := Lib.hid ((hs.block _ (blk_lt' HB3.out)).trans HB3.out)
  replace HT2 := Lib.hid ((HT2.out.below hs (Nat.le_refl _)).more (Nat.le_refl _) hs.size)
  replace HT5 := Lib.hid ((HT5.out.below hs (Nat.le_refl _)).more (Nat.le_refl _) hs.size)
  replace HT15 := Lib.hid ((HT15.out.below hs (Nat.le_refl _)).more (Nat.le_refl _) hs.size)
  replace HT16 := Lib.hid ((HT16.out.below hs (Nat.le_refl _)).more (Nat.le_refl _) hs.size)
  replace HT17 := Lib.hid ((HT17.out.below hs (Nat.le_refl _)).more (Nat.le_refl _) hs.size)
  replace HT18 := Lib.hid ((HT18.out.below hs (Nat.le_refl _)).more (Nat.le_refl _) hs.size)
  replace hz := below_step hz hs
  clear hs hb
  go_wp2_with fail
  refine ((c_Named w.heap.size sInt' [] _ _ (IsTyl.nil none 0)).mono RetTy.x).mono ?_
  rintro e w20 ⟨T20, A20, c20, ht20, rfl, HT20, hb⟩
  have hs : Below w19.heap.size w19 w20 := hb
  replace HB1 := Lib.hid ((hs.block _ (blk_lt' HB1.out)).trans HB1.out)
  replace HB2 := Lib.hid ((hs.block _ (blk_lt' HB2.out)).trans HB2.out)
  replace HB3 := Lib.hid ((hs.block _ (blk_lt' HB3.out)).trans HB3.out)
  replace HT2 := Lib.hid ((HT2.out.below hs (Nat.le_refl _)).more (Nat.le_refl _) hs.size)
  replace HT5 := Lib.hid ((HT5.out.below hs (Nat.le_refl _)).more (Nat.le_refl _) hs.size)
  replace HT15 := Lib.hid ((HT15.out.below hs (Nat.le_refl _)).more (Nat.le_refl _) hs.size)
  replace HT16 := Lib.hid ((HT16.out.below hs (Nat.le_refl _)).more (Nat.le_refl _) hs.size)
  replace HT17 := Lib.hid ((HT17.out.below hs (Nat.le_refl _)).more (Nat.le_refl _) hs.size)
  replace HT18 := Lib.hid ((HT18.out.below hs (Nat.le_refl _)).more (Nat.le_refl _) hs.size)
  replace HT19 := Lib.hid ((HT19.out.below hs (Nat.le_refl _)).more (Nat.le_refl _) hs.size)
  replace hz := below_step hz hs
  clear hs hb
  have HSL : Hid (∀ W : World, W = w20.alloc (.cells #[.int .i64 T19.kind, .string T19.name, .int .i64 T19.index, .slice A19 T19.args.length c19, .int .i64 T20.kind, .string T20.name, .int .i64 T20.index, .slice A20 T20.args.length c20] 25) → IsTyl W w.heap.size W.heap.size [T19, T20] (.slice (some ⟨w20.heap.size, 0, none⟩) 2 2)) := Lib.hid (fun W hW => by
    subst hW
    exact IsTyl.two (blk_new _ _) hz.size (by simp) ((HT19.out.below (below_new _ _) (Nat.le_refl _)).more (Nat.le_refl _) (by simp)) ((HT20.out.below (below_new _ _) (Nat.le_refl _)).more (Nat.le_refl _) (by simp)) 2)
  go_wp2_with fail
  refine ((c_Named w.heap.size sPair [T19, T20] _ _ (HSL.out _ rfl)).mono RetTy.x).mono ?_
  rintro e w21 ⟨T21, A21, c21, ht21, rfl, HT21, hb⟩
  have hs : Below w20.heap.size w20 w21 := below_step (below_new _ _) hb
  replace HB1 := Lib.hid ((hs.block _ (blk_lt' HB1.out)).trans HB1.out)
  replace HB2 := Lib.hid ((hs.block _ (blk_lt' HB2.out)).trans HB2.out)
  replace HB3 := Lib.hid ((hs.block _ (blk_lt' HB3.out)).trans HB3.out)
  replace HT2 := Lib.hid ((HT2.out.below hs (Nat.le_refl _)).more (Nat.le_refl _) hs.size)
  replace HT5 := Lib.hid ((HT5.out.below hs (Nat.le_refl _)).more (Nat.le_refl _) hs.size)
  replace HT15 := Lib.hid ((HT15.out.below hs (Nat.le_refl _)).more (Nat.le_refl _) hs.size)
  replace HT16 := Lib.hid ((HT16.out.below hs (Nat.le_refl _)).more (Nat.le_refl _) hs.size)
  replace HT17 := Lib.hid ((HT17.out.below hs (Nat.le_refl _)).more (Nat.le_refl _) hs.size)
  replace HT18 := Lib.hid ((HT18.out.below hs (Nat.le_refl _)).more (Nat.le_refl _) hs.size)
  clear HT19
  clear HT20
  replace hz := below_step hz hs
  clear HSL
  clear hs hb
  go_wp2_with fail
  refine ((c_Exists w.heap.size T18 T21 _ _ _ HT18.out HT21.out hz.size).mono RetTy.x).mono ?_
  rintro e w22 ⟨T22, A22, c22, ht22, rfl, HT22, hb⟩
  have hs : Below w21.heap.size w21 w22 := hb
  replace HB1 := Lib.hid ((hs.block _ (blk_lt' HB1.out)).trans HB1.out)
  replace HB2 := Lib.hid ((hs.block _ (blk_lt' HB2.out)).trans HB2.out)
  replace HB3 := Lib.hid ((hs.block _ (blk_lt' HB3.out)).trans HB3.out)
  replace HT2 := Lib.hid ((HT2.out.below hs (Nat.le_refl _)).more (Nat.le_refl _) hs.size)
  replace HT5 := Lib.hid ((HT5.out.below hs (Nat.le_refl _)).more (Nat.le_refl _) hs.size)
  replace HT15 := Lib.hid ((HT15.out.below hs (Nat.le_refl _)).more (Nat.le_refl _) hs.size)
  replace HT16 := Lib.hid ((HT16.out.below hs (Nat.le_refl _)).more (Nat.le_refl _) hs.size)
  replace HT17 := Lib.hid ((HT17.out.below hs (Nat.le_refl _)).more (Nat.le_refl _) hs.size)
  clear HT18
  clear HT21
  replace hz := below_step hz hs
  clear hs hb
  have HSL : Hid (∀ W : World, W = w22.alloc (.cells #[.int .i64 T16.kind, .string T16.name, .int .i64 T16.index, .slice A16 T16.args.length c16, .int .i64 T17.kind, .string T17.name, .int .i64 T17.index, .slice A17 T17.args.length c17, .int .i64 T22.kind, .string T22.name, .int .i64 T22.index, .slice A22 T22.args.length c22] 25) → IsTyl W w.heap.size W.heap.size [T16, T17, T22] (.slice (some ⟨w22.heap.size, 0, none⟩) 3 3)) := Lib.hid (fun W hW => by
    subst hW
    exact IsTyl.three (blk_new _ _) hz.size (by simp) ((HT16.out.below (below_new _ _) (Nat.le_refl _)).more (Nat.le_refl _) (by simp)) ((HT17.out.below (below_new _ _) (Nat.le_refl _)).more (Nat.le_refl _) (by simp)) ((HT22.out.below (below_new _ _) (Nat.le_refl _)).more (Nat.le_refl _) (by simp)) 3)
  go_wp2_with fail
  refine ((c_Tuple w.heap.size [T16, T17, T22] _ _ (HSL.out _ rfl)).mono RetTy.x).mono ?_
  rintro e w23 ⟨T23, A23, c23, ht23, rfl, HT23, hb⟩
  have hs : Below w22.heap.size w22 w23 := below_step (below_new _ _) hb
  replace HB1 := Lib.hid ((hs.block _ (blk_lt' HB1.out)).trans HB1.out)
  replace HB2 := Lib.hid ((hs.block _ (blk_lt' HB2.out)).trans HB2.out)
  replace HB3 := Lib.hid ((hs.block _ (blk_lt' HB3.out)).trans HB3.out)
  replace HT2 := Lib.hid ((HT2.out.below hs (Nat.le_refl _)).more (Nat.le_refl _) hs.size)
  replace HT5 := Lib.hid ((HT5.out.below hs (Nat.le_refl _)).more (Nat.le_refl _) hs.size)
  replace HT15 := Lib.hid ((HT15.out.below hs (Nat.le_refl _)).more (Nat.le_refl _) hs.size)
  clear HT16
  clear HT17
  clear HT22
  replace hz := below_step hz hs
  clear HSL
  clear hs hb
  go_wp2_with fail
  refine (c_check _ G ((HE.out.below hz hG).below (below_new _ _) (by have := hz.size; omega)) (by have := hz.size; simp; omega)).mono ?_
  rintro e w24 ⟨rfl, hb⟩
  have hs : Below w23.heap.size w23 w24 := below_step (below_new _ _) hb
  have HB4 := Lib.hid ((hb.block w23.heap.size (by simp)).trans (blk_new w23 (.cells #[.int .i64 T23.kind, .string T23.name, .int .i64 T23.index, .slice A23 T23.args.length c23] 25)))
  replace HB1 := Lib.hid ((hs.block _ (blk_lt' HB1.out)).trans HB1.out)
  replace HB2 := Lib.hid ((hs.block _ (blk_lt' HB2.out)).trans HB2.out)
  replace HB3 := Lib.hid ((hs.block _ (blk_lt' HB3.out)).trans HB3.out)
  replace HT2 := Lib.hid ((HT2.out.below hs (Nat.le_refl _)).more (Nat.le_refl _) hs.size)
  replace HT5 := Lib.hid ((HT5.out.below hs (Nat.le_refl _)).more (Nat.le_refl _) hs.size)
  replace HT15 := Lib.hid ((HT15.out.below hs (Nat.le_refl _)).more (Nat.le_refl _) hs.size)
  replace HT23 := Lib.hid ((HT23.out.below hs (Nat.le_refl _)).more (Nat.le_refl _) hs.size)
  replace hz := below_step hz hs
  clear hs hb
  obtain ⟨⟨y10, y11, y12, y13⟩, _⟩ := box_frozen HB1.out
  go_wp2_with fail
  have hv : T2.validate = 0 := by rw [ht2.out, ht1.out]; decide +kernel
  have hsA : T2.size ≤ 1000 := by rw [ht2.out, ht1.out]; decide
  have hoA : Hid T2.ok := Lib.hid (Ty.ok_of_okb _ (by rw [ht2.out, ht1.out]; decide))
  refine (c_Validate T2 _ _ _ G _ HT2.out (Nat.le_refl _) hoA.out (by omega) (HE.out.below hz hG) (by have := hz.size; omega)).mono ?_
  rintro e w25 ⟨rfl, hb⟩
  rw [hv]
  clear hv hsA hoA
  have hs : Below w24.heap.size w24 w25 := hb
  replace HB1 := Lib.hid ((hs.block _ (blk_lt' HB1.out)).trans HB1.out)
  replace HB2 := Lib.hid ((hs.block _ (blk_lt' HB2.out)).trans HB2.out)
  replace HB3 := Lib.hid ((hs.block _ (blk_lt' HB3.out)).trans HB3.out)
  replace HB4 := Lib.hid ((hs.block _ (blk_lt' HB4.out)).trans HB4.out)
  replace HT2 := Lib.hid ((HT2.out.below hs (Nat.le_refl _)).more (Nat.le_refl _) hs.size)
  replace HT5 := Lib.hid ((HT5.out.below hs (Nat.le_refl _)).more (Nat.le_refl _) hs.size)
  replace HT15 := Lib.hid ((HT15.out.below hs (Nat.le_refl _)).more (Nat.le_refl _) hs.size)
  replace HT23 := Lib.hid ((HT23.out.below hs (Nat.le_refl _)).more (Nat.le_refl _) hs.size)
  replace hz := below_step hz hs
  clear y10 y11 y12 y13
  clear hs hb
  obtain ⟨⟨y20, y21, y22, y23⟩, _⟩ := box_frozen HB2.out
  go_wp2_with fail
  have hv : T5.validate = 2 := by rw [ht5.out, ht4.out, ht3.out]; decide +kernel
  have hsA : T5.size ≤ 1000 := by rw [ht5.out, ht4.out, ht3.out]; decide
  have hoA : Hid T5.ok := Lib.hid (Ty.ok_of_okb _ (by rw [ht5.out, ht4.out, ht3.out]; decide))
  refine (c_Validate T5 _ _ _ G _ HT5.out (Nat.le_refl _) hoA.out (by omega) (HE.out.below hz hG) (by have := hz.size; omega)).mono ?_
  rintro e w26 ⟨rfl, hb⟩
  rw [hv]
  clear hv hsA hoA
  have hs : Below w25.heap.size w25 w26 := hb
  replace HB1 := Lib.hid ((hs.block _ (blk_lt' HB1.out)).trans HB1.out)
  clear HB2
  replace HB3 := Lib.hid ((hs.block _ (blk_lt' HB3.out)).trans HB3.out)
  replace HB4 := Lib.hid ((hs.block _ (blk_lt' HB4.out)).trans HB4.out)
  replace HT2 := Lib.hid ((HT2.out.below hs (Nat.le_refl _)).more (Nat.le_refl _) hs.size)
  clear HT5
  replace HT15 := Lib.hid ((HT15.out.below hs (Nat.le_refl _)).more (Nat.le_refl _) hs.size)
  replace HT23 := Lib.hid ((HT23.out.below hs (Nat.le_refl _)).more (Nat.le_refl _) hs.size)
  replace hz := below_step hz hs
  clear y20 y21 y22 y23
  clear hs hb
  go_wp2_with fail
  refine ((c_Named w.heap.size sTup [] _ _ (IsTyl.nil none 0)).mono RetTy.x).mono ?_
  rintro e w27 ⟨T27, A27, c27, ht27, rfl, HT27, hb⟩
  have hs : Below w26.heap.size w26 w27 := hb
  replace HB1 := Lib.hid ((hs.block _ (blk_lt' HB1.out)).trans HB1.out)
  replace HB3 := Lib.hid ((hs.block _ (blk_lt' HB3.out)).trans HB3.out)
  replace HB4 := Lib.hid ((hs.block _ (blk_lt' HB4.out)).trans HB4.out)
  replace HT2 := Lib.hid ((HT2.out.below hs (Nat.le_refl _)).more (Nat.le_refl _) hs.size)
  replace HT15 := Lib.hid ((HT15.out.below hs (Nat.le_refl _)).more (Nat.le_refl _) hs.size)
  replace HT23 := Lib.hid ((HT23.out.below hs (Nat.le_refl _)).more (Nat.le_refl _) hs.size)
  replace hz := below_step hz hs
  clear hs hb
  go_wp2_with fail
  have hv : T27.validate = 2 := by rw [ht27.out]; decide +kernel
  have hsA : T27.size ≤ 1000 := by rw [ht27.out]; decide
  have hoA : Hid T27.ok := Lib.hid (Ty.ok_of_okb _ (by rw [ht27.out]; decide))
  refine (c_Validate T27 _ _ _ G _ HT27.out (Nat.le_refl _) hoA.out (by omega) (HE.out.below hz hG) (by have := hz.size; omega)).mono ?_
  rintro e w28 ⟨rfl, hb⟩
  rw [hv]
  clear hv hsA hoA
  have hs : Below w27.heap.size w27 w28 := hb
  replace HB1 := Lib.hid ((hs.block _ (blk_lt' HB1.out)).trans HB1.out)
  replace HB3 := Lib.hid ((hs.block _ (blk_lt' HB3.out)).trans HB3.out)
  replace HB4 := Lib.hid ((hs.block _ (blk_lt' HB4.out)).trans HB4.out)
  replace HT2 := Lib.hid ((HT2.out.below hs (Nat.le_refl _)).more (Nat.le_refl _) hs.size)
  replace HT15 := Lib.hid ((HT15.out.below hs (Nat.le_refl _)).more (Nat.le_refl _) hs.size)
  replace HT23 := Lib.hid ((HT23.out.below hs (Nat.le_refl _)).more (Nat.le_refl _) hs.size)
  clear HT27
  replace hz := below_step hz hs
  clear hs hb
  go_wp2_with fail
  refine ((c_Any w.heap.size _).mono RetTy.x).mono ?_
  rintro e w29 ⟨T29, A29, c29, ht29, rfl, HT29, hb⟩
  have hs : Below w28.heap.size w28 w29 := hb
  replace HB1 := Lib.hid ((hs.block _ (blk_lt' HB1.out)).trans HB1.out)
  replace HB3 := Lib.hid ((hs.block _ (blk_lt' HB3.out)).trans HB3.out)
  replace HB4 := Lib.hid ((hs.block _ (blk_lt' HB4.out)).trans HB4.out)
  replace HT2 := Lib.hid ((HT2.out.below hs (Nat.le_refl _)).more (Nat.le_refl _) hs.size)
  replace HT15 := Lib.hid ((HT15.out.below hs (Nat.le_refl _)).more (Nat.le_refl _) hs.size)
  replace HT23 := Lib.hid ((HT23.out.below hs (Nat.le_refl _)).more (Nat.le_refl _) hs.size)
  replace hz := below_step hz hs
  clear hs hb
  have HSL : Hid (∀ W : World, W = w29.alloc (.cells #[.int .i64 T29.kind, .string T29.name, .int .i64 T29.index, .slice A29 T29.args.length c29] 25) → IsTyl W w.heap.size W.heap.size [T29] (.slice (some ⟨w29.heap.size, 0, none⟩) 1 1)) := Lib.hid (fun W hW => by
    subst hW
    exact IsTyl.one (blk_new _ _) hz.size (by simp) ((HT29.out.below (below_new _ _) (Nat.le_refl _)).more (Nat.le_refl _) (by simp)) 1)
  go_wp2_with fail
  refine ((c_UnionTerm w.heap.size [T29] _ _ (HSL.out _ rfl)).mono RetTy.x).mono ?_
  rintro e w30 ⟨T30, A30, c30, ht30, rfl, HT30, hb⟩
  have hs : Below w29.heap.size w29 w30 := below_step (below_new _ _) hb
  replace HB1 := Lib.hid ((hs.block _ (blk_lt' HB1.out)).trans HB1.out)
  replace HB3 := Lib.hid ((hs.block _ (blk_lt' HB3.out)).trans HB3.out)
  replace HB4 := Lib.hid ((hs.block _ (blk_lt' HB4.out)).trans HB4.out)
  replace HT2 := Lib.hid ((HT2.out.below hs (Nat.le_refl _)).more (Nat.le_refl _) hs.size)
  replace HT15 := Lib.hid ((HT15.out.below hs (Nat.le_refl _)).more (Nat.le_refl _) hs.size)
  replace HT23 := Lib.hid ((HT23.out.below hs (Nat.le_refl _)).more (Nat.le_refl _) hs.size)
  clear HT29
  replace hz := below_step hz hs
  clear HSL
  clear hs hb
  go_wp2_with fail
  have hv : T30.validate = 2 := by rw [ht30.out, ht29.out]; decide +kernel
  have hsA : T30.size ≤ 1000 := by rw [ht30.out, ht29.out]; decide
  have hoA : Hid T30.ok := Lib.hid (Ty.ok_of_okb _ (by rw [ht30.out, ht29.out]; decide))
  refine (c_Validate T30 _ _ _ G _ HT30.out (Nat.le_refl _) hoA.out (by omega) (HE.out.below hz hG) (by have := hz.size; omega)).mono ?_
  rintro e w31 ⟨rfl, hb⟩
  rw [hv]
  clear hv hsA hoA
  have hs : Below w30.heap.size w30 w31 := hb
  replace HB1 := Lib.hid ((hs.block _ (blk_lt' HB1.out)).trans HB1.out)
  replace HB3 := Lib.hid ((hs.block _ (blk_lt' HB3.out)).trans HB3.out)
  replace HB4 := Lib.hid ((hs.block _ (blk_lt' HB4.out)).trans HB4.out)
  replace HT2 := Lib.hid ((HT2.out.below hs (Nat.le_refl _)).more (Nat.le_refl _) hs.size)
  replace HT15 := Lib.hid ((HT15.out.below hs (Nat.le_refl _)).more (Nat.le_refl _) hs.size)
  replace HT23 := Lib.hid ((HT23.out.below hs (Nat.le_refl _)).more (Nat.le_refl _) hs.size)
  clear HT30
  replace hz := below_step hz hs
  clear hs hb
  go_wp2_with fail
  refine ((c_Var w.heap.size 0 _).mono RetTy.x).mono ?_
  rintro e w32 ⟨T32, A32, c32, ht32, rfl, HT32, hb⟩
  have hs : Below w31.heap.size w31 w32 := hb
  replace HB1 := Lib.hid ((hs.block _ (blk_lt' HB1.out)).trans HB1.out)
  replace HB3 := Lib.hid ((hs.block _ (blk_lt' HB3.out)).trans HB3.out)
  replace HB4 := Lib.hid ((hs.block _ (blk_lt' HB4.out)).trans HB4.out)
  replace HT2 := Lib.hid ((HT2.out.below hs (Nat.le_refl _)).more (Nat.le_refl _) hs.size)
  replace HT15 := Lib.hid ((HT15.out.below hs (Nat.le_refl _)).more (Nat.le_refl _) hs.size)
  replace HT23 := Lib.hid ((HT23.out.below hs (Nat.le_refl _)).more (Nat.le_refl _) hs.size)
  replace hz := below_step hz hs
  clear hs hb
  go_wp2_with fail
  refine ((c_Any w.heap.size _).mono RetTy.x).mono ?_
  rintro e w33 ⟨T33, A33, c33, ht33, rfl, HT33, hb⟩
  have hs : Below w32.heap.size w32 w33 := hb
  replace HB1 := Lib.hid ((hs.block _ (blk_lt' HB1.out)).trans HB1.out)
  replace HB3 := Lib.hid ((hs.block _ (blk_lt' HB3.out)).trans HB3.out)
  replace HB4 := Lib.hid ((hs.block _ (blk_lt' HB4.out)).trans HB4.out)
  replace HT2 := Lib.hid ((HT2.out.below hs (Nat.le_refl _)).more (Nat.le_refl _) hs.size)
  replace HT15 := Lib.hid ((HT15.out.below hs (Nat.le_refl _)).more (Nat.le_refl _) hs.size)
  replace HT23 := Lib.hid ((HT23.out.below hs (Nat.le_refl _)).more (Nat.le_refl _) hs.size)
  replace HT32 := Lib.hid ((HT32.out.below hs (Nat.le_refl _)).more (Nat.le_refl _) hs.size)
  replace hz := below_step hz hs
  clear hs hb
  go_wp2_with fail
  refine ((c_Exists w.heap.size T32 T33 _ _ _ HT32.out HT33.out hz.size).mono RetTy.x).mono ?_
  rintro e w34 ⟨T34, A34, c34, ht34, rfl, HT34, hb⟩
  have hs : Below w33.heap.size w33 w34 := hb
  replace HB1 := Lib.hid ((hs.block _ (blk_lt' HB1.out)).trans HB1.out)
  replace HB3 := Lib.hid ((hs.block _ (blk_lt' HB3.out)).trans HB3.out)
  replace HB4 := Lib.hid ((hs.block _ (blk_lt' HB4.out)).trans HB4.out)
  replace HT2 := Lib.hid ((HT2.out.below hs (Nat.le_refl _)).more (Nat.le_refl _) hs.size)
  replace HT15 := Lib.hid ((HT15.out.below hs (Nat.le_refl _)).more (Nat.le_refl _) hs.size)
  replace HT23 := Lib.hid ((HT23.out.below hs (Nat.le_refl _)).more (Nat.le_refl _) hs.size)
  clear HT32
  clear HT33
  replace hz := below_step hz hs
  clear hs hb
  go_wp2_with fail
  have hv : T34.validate = 2 := by rw [ht34.out, ht32.out, ht33.out]; decide +kernel
  have hsA : T34.size ≤ 1000 := by rw [ht34.out, ht32.out, ht33.out]; decide
  have hoA : Hid T34.ok := Lib.hid (Ty.ok_of_okb _ (by rw [ht34.out, ht32.out, ht33.out]; decide))
  refine (c_Validate T34 _ _ _ G _ HT34.out (Nat.le_refl _) hoA.out (by omega) (HE.out.below hz hG) (by have := hz.size; omega)).mono ?_
  rintro e w35 ⟨rfl, hb⟩
  rw [hv]
  clear hv hsA hoA
  have hs : Below w34.heap.size w34 w35 := hb
  replace HB1 := Lib.hid ((hs.block _ (blk_lt' HB1.out)).trans HB1.out)
  replace HB3 := Lib.hid ((hs.block _ (blk_lt' HB3.out)).trans HB3.out)
  replace HB4 := Lib.hid ((hs.block _ (blk_lt' HB4.out)).trans HB4.out)
  replace HT2 := Lib.hid ((HT2.out.below hs (Nat.le_refl _)).more (Nat.le_refl _) hs.size)
  replace HT15 := Lib.hid ((HT15.out.below hs (Nat.le_refl _)).more (Nat.le_refl _) hs.size)
  replace HT23 := Lib.hid ((HT23.out.below hs (Nat.le_refl _)).more (Nat.le_refl _) hs.size)
  clear HT34
  replace hz := below_step hz hs
  clear hs hb
  go_wp2_with fail
  refine (c_Validate ⟨7, ⟨#[]⟩, 0, []⟩ _ 0 0 G _ (IsTy.mk_ (IsTyl.nil none 0)) (Nat.zero_le _) (Ty.ok_of_okb _ (by decide)) (by decide) (HE.out.below hz hG) (by have := hz.size; omega)).mono ?_
  rintro e w36 ⟨rfl, hb⟩
  rw [show (⟨7, ⟨#[]⟩, 0, []⟩ : Ty).validate = 2 by decide +kernel]
  have hs : Below w35.heap.size w35 w36 := hb
  replace HB1 := Lib.hid ((hs.block _ (blk_lt' HB1.out)).trans HB1.out)
  replace HB3 := Lib.hid ((hs.block _ (blk_lt' HB3.out)).trans HB3.out)
  replace HB4 := Lib.hid ((hs.block _ (blk_lt' HB4.out)).trans HB4.out)
  replace HT2 := Lib.hid ((HT2.out.below hs (Nat.le_refl _)).more (Nat.le_refl _) hs.size)
  replace HT15 := Lib.hid ((HT15.out.below hs (Nat.le_refl _)).more (Nat.le_refl _) hs.size)
  replace HT23 := Lib.hid ((HT23.out.below hs (Nat.le_refl _)).more (Nat.le_refl _) hs.size)
  replace hz := below_step hz hs
  clear hs hb
  obtain ⟨⟨y30, y31, y32, y33⟩, _⟩ := box_frozen HB3.out
  obtain ⟨⟨y40, y41, y42, y43⟩, _⟩ := box_frozen HB4.out
  go_wp2_with fail
  have hv : T15.cmp T23 = 0 := by rw [ht15.out, ht13.out, ht14.out, ht6.out, ht7.out, ht12.out, ht8.out, ht11.out, ht9.out, ht10.out, ht23.out, ht16.out, ht17.out, ht22.out, ht18.out, ht21.out, ht19.out, ht20.out]; decide +kernel
  have hsA : T15.size ≤ 1000 := by rw [ht15.out, ht13.out, ht14.out, ht6.out, ht7.out, ht12.out, ht8.out, ht11.out, ht9.out, ht10.out]; decide
  refine (c_Equal T15 T23 _ _ _ _ _ _ _ HT15.out HT23.out (Nat.le_refl _) (Nat.le_refl _) (by omega)).mono ?_
  rintro e w37 ⟨rfl, hb⟩
  rw [hv]
  clear hv hsA
  have hs : Below w36.heap.size w36 w37 := hb
  replace HB1 := Lib.hid ((hs.block _ (blk_lt' HB1.out)).trans HB1.out)
  clear HB3
  clear HB4
  replace HT2 := Lib.hid ((HT2.out.below hs (Nat.le_refl _)).more (Nat.le_refl _) hs.size)
  clear HT15
  clear HT23
  replace hz := below_step hz hs
  clear y30 y31 y32 y33
  clear y40 y41 y42 y43
  clear hs hb
  obtain ⟨⟨y10, y11, y12, y13⟩, _⟩ := box_frozen HB1.out
  have HSL : Hid (∀ W : World, W = w37.alloc (.cells #[.int .i64 T2.kind, .string T2.name, .int .i64 T2.index, .slice A2 T2.args.length c2] 25) → IsTyl W w.heap.size W.heap.size [T2] (.slice (some ⟨w37.heap.size, 0, none⟩) 1 1)) := Lib.hid (fun W hW => by
    subst hW
    exact IsTyl.one (blk_new _ _) hz.size (by simp) ((HT2.out.below (below_new _ _) (Nat.le_refl _)).more (Nat.le_refl _) (by simp)) 1)
  go_wp2_with fail
  refine ((c_Named w.heap.size sBox [T2] _ _ (HSL.out _ rfl)).mono RetTy.x).mono ?_
  rintro e w38 ⟨T38, A38, c38, ht38, rfl, HT38, hb⟩
  have hs : Below w37.heap.size w37 w38 := below_step (below_new _ _) hb
  clear HB1
  clear HT2
  replace hz := below_step hz hs
  clear HSL
  clear y10 y11 y12 y13
  clear hs hb
  go_wp2_with fail
  have hv : T38.plain = true := by rw [ht38.out, ht2.out, ht1.out]; decide +kernel
  have hsA : T38.size ≤ 1000 := by rw [ht38.out, ht2.out, ht1.out]; decide
  have hoA : Hid T38.ok := Lib.hid (Ty.ok_of_okb _ (by rw [ht38.out, ht2.out, ht1.out]; decide))
  refine (c_IsPlain T38.size T38 _ _ (Nat.le_refl _) hoA.out (by omega) _ _ HT38.out (Nat.le_refl _)).mono ?_
  rintro e w39 ⟨rfl, hb⟩
  rw [hv]
  clear hv hsA hoA
  have hs : Below w38.heap.size w38 w39 := hb
  clear HT38
  replace hz := below_step hz hs
  clear hs hb
  go_wp2_with fail
  refine ((c_Var w.heap.size 0 _).mono RetTy.x).mono ?_
  rintro e w40 ⟨T40, A40, c40, ht40, rfl, HT40, hb⟩
  have hs : Below w39.heap.size w39 w40 := hb
  replace hz := below_step hz hs
  clear hs hb
  have HSL : Hid (∀ W : World, W = w40.alloc (.cells #[.int .i64 T40.kind, .string T40.name, .int .i64 T40.index, .slice A40 T40.args.length c40] 25) → IsTyl W w.heap.size W.heap.size [T40] (.slice (some ⟨w40.heap.size, 0, none⟩) 1 1)) := Lib.hid (fun W hW => by
    subst hW
    exact IsTyl.one (blk_new _ _) hz.size (by simp) ((HT40.out.below (below_new _ _) (Nat.le_refl _)).more (Nat.le_refl _) (by simp)) 1)
  go_wp2_with fail
  refine ((c_Tuple w.heap.size [T40] _ _ (HSL.out _ rfl)).mono RetTy.x).mono ?_
  rintro e w41 ⟨T41, A41, c41, ht41, rfl, HT41, hb⟩
  have hs : Below w40.heap.size w40 w41 := below_step (below_new _ _) hb
  clear HT40
  replace hz := below_step hz hs
  clear HSL
  clear hs hb
  go_wp2_with fail
  have hv : T41.plain = false := by rw [ht41.out, ht40.out]; decide +kernel
  have hsA : T41.size ≤ 1000 := by rw [ht41.out, ht40.out]; decide
  have hoA : Hid T41.ok := Lib.hid (Ty.ok_of_okb _ (by rw [ht41.out, ht40.out]; decide))
  refine (c_IsPlain T41.size T41 _ _ (Nat.le_refl _) hoA.out (by omega) _ _ HT41.out (Nat.le_refl _)).mono ?_
  rintro e w42 ⟨rfl, hb⟩
  rw [hv]
  clear hv hsA hoA
  have hs : Below w41.heap.size w41 w42 := hb
  clear HT41
  replace hz := below_step hz hs
  clear hs hb
  go_wp2_with fail
  refine ((c_Any w.heap.size _).mono RetTy.x).mono ?_
  rintro e w43 ⟨T43, A43, c43, ht43, rfl, HT43, hb⟩
  have hs : Below w42.heap.size w42 w43 := hb
  replace hz := below_step hz hs
  clear hs hb
  go_wp2_with fail
  refine ((c_Never w.heap.size _).mono RetTy.x).mono ?_
  rintro e w44 ⟨T44, A44, c44, ht44, rfl, HT44, hb⟩
  have hs : Below w43.heap.size w43 w44 := hb
  replace HT43 := Lib.hid ((HT43.out.below hs (Nat.le_refl _)).more (Nat.le_refl _) hs.size)
  replace hz := below_step hz hs
  clear hs hb
  go_wp2_with fail
  have hv : T43.cmp T44 = -1 := by rw [ht43.out, ht44.out]; decide +kernel
  have hsA : T43.size ≤ 1000 := by rw [ht43.out]; decide
  refine (c_Compare T43.size T43 T44 _ _ _ _ _ _ _ (Nat.le_refl _) HT43.out HT44.out (Nat.le_refl _) (Nat.le_refl _) (by omega)).mono ?_
  rintro e w45 ⟨rfl, hb⟩
  rw [hv]
  clear hv hsA
  have hs : Below w44.heap.size w44 w45 := hb
  clear HT43
  clear HT44
  replace hz := below_step hz hs
  clear hs hb
  go_wp2
  go_ret
  exact ⟨rfl, hz⟩
end Go.Proofs.YtdbflfakocaapaaDoor
