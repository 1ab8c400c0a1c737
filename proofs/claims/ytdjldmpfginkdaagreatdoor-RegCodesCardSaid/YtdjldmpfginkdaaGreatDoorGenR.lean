/- Contract of telgen's Reg. -/
import Derived.Test.YtdjldmpfginkdaaGreatDoorGenRT
import Derived.Deep.CutRange
import Derived.Deep.CutBlock
namespace Go.Proofs.YtdjldmpfginkdaaGreatDoor
open Go.RowKit
attribute [local go_sem ↓] Go.wp_at_zero Go.wp_at_succ

set_option maxRecDepth 100000 in
set_option maxHeartbeats 16000000 in
theorem c_TGen (sb : Nat) (w : World) (h : TapeOk w sb 0) :
    Calls Tryz.prog 7 #[.pointer (some ⟨sb, 0, none⟩)] w (RegR w sb) := by
  obtain ⟨i0, hi0, hz0, hz1, hz2⟩ := info_parts info_instr
  have HI : Hid (i0.zero = some (.agg #[.int .i64 0, .int .i64 0, .int .i64 0, .int .i64 0, .int .i64 0, .string ⟨#[]⟩, .slice none 0 0, .int .i64 0, .string ⟨#[]⟩, .int .i64 0, .slice none 0 0, .int .i64 0, .int .i64 0, .string ⟨#[]⟩, .slice none 0 0]) ∧ i0.size = 15 ∧ i0.bytes = 192) := Lib.hid ⟨hz0, hz1, hz2⟩
  have Hi0 := Lib.hid hi0
  clear hi0 hz0 hz1 hz2
  have hlt := h.lt
  have HN0 := Lib.hid (c_TNext 3 sb 0 (w.alloc (.cells #[.int .i64 0, .slice none 0 0, .slice none 0 0, .slice none 0 0] 26)) (h.grown_new _) (by omega) (by omega) (by omega))
  clear h
  go_enter Tryz.func7, Tryz.ntmps7
  go_wp2_with fail
  refine HN0.out.mono ?_
  rintro e w1 ⟨p, rfl, hp0, hp1, ht, hg⟩
  have HT1 := Lib.hid ht
  have HG1 := Lib.hid (grown_trans (World.grownBy_alloc w (.cells #[.int .i64 0, .slice none 0 0, .slice none 0 0, .slice none 0 0] 26) (some sb)) hg)
  have HS1 : Hid (w1.heap[w.heap.size]? = some (.cells #[.int .i64 0, .slice none 0 0, .slice none 0 0, .slice none 0 0] 26 (0, 0))) := Lib.hid ((hg.block w.heap.size (by simp) (by simp; omega)).trans (blk_new _ _))
  have hz1 : w.heap.size < w1.heap.size := Nat.lt_of_lt_of_le (by simp) hg.size
  clear ht hg HN0
  go_wp2_with fail
  generalize hW2 : (w1.alloc _).alloc _ = w2
  have HR2 : Hid (RG w sb (w1.heap.size + 1) w1.heap.size 1 p [] (.slice none 0 0) w2) := Lib.hid (by
    subst hW2
    have hb1 := below_step (below_new w1 (.cells #[.int .i64 0, .int .i64 0, .int .i64 0, .int .i64 1, .int .i64 1, .int .i64 2, .int .i64 2] 3)) (below_new _ (.cells #[.int .i64 p, .slice (some ⟨w1.heap.size, 0, none⟩) 7 7, .slice none 0 0, .slice none 0 0] 26))
    exact ⟨HT1.out.below hb1 (by omega), blk_new2 _ _ _, blk_old (blk_new _ _), (hb1.block _ hz1).trans HS1.out, ⟨[], World.ownsRow_nil _ _ _ _, Rows15.nil _⟩, grown_trans HG1.out (grown_trans (World.grownBy_alloc _ _ _) (World.grownBy_alloc _ _ _)), hlt, hz1, by omega⟩)
  have hw2 : w2.heap.size = w1.heap.size + 2 := by rw [← hW2]; simp
  clear hW2 HT1 HG1 HS1
  generalize hrb : w1.heap.size + 1 = rb at *
  generalize w1.heap.size = cb at *
  refine (c_TNext 12 sb 1 w2 HR2.out.tape (by omega) (by omega) (by omega)).mono ?_
  rintro e w3 ⟨y, rfl, hy0, hy1, ht, hg⟩
  have HR3 := Lib.hid (HR2.out.step hg ht)
  clear ht hg HR2
  obtain ⟨q, rfl⟩ : ∃ q : Nat, y = q := ⟨y.toNat, by omega⟩
  have hq11 : q ≤ 11 := by omega
  clear hy0 hy1
  go_wp2
  obtain ⟨wp, rfl⟩ : ∃ wp : World, wp = w3 := ⟨_, rfl⟩
  go_loopw [5] (fun s wr => ∃ (i : Nat) (l : List GI) (iv : Value), i ≤ q + 2 ∧ s = .int .i64 i ∧ l.length = i ∧ Hid (RG w sb rb cb (2 + 20 * i) p l iv wr)) (fun s _ => q + 2 - (intOf s).toNat)
  case atStart => exact ⟨0, [], _, by omega, rfl, rfl, HR3⟩
  case round =>
    clear HR3
    obtain ⟨i, l, iv, hi, rfl, hl, HR⟩ := hrel
    by_cases hiq : i < q + 2
    · have hi1 : (i : Int) < 2 + (q : Int) := by omega
      have hi0 : (0 : Int) ≤ (i : Int) := by omega
      have hrlt := HR.out.lt
      have hl1 := HR.out.lt1
      have hl2 := HR.out.lt2
      have hl3 := HR.out.lt3
      go_wp2_with fail
      refine (c_TNext 27 sb (2 + 20 * i) wr HR.out.tape (by omega) (by omega) (by omega)).mono ?_
      rintro e w4 ⟨y, rfl, hy0, hy1, ht, hg⟩
      have HG4 := Lib.hid hg
      have HT4 := Lib.hid ht
      have hz4 := hg.size
      clear ht hg
      go_upto_block 2 with fail
      generalize hWx : w4.alloc _ = wx
      have HHx : Hid (GSt wr sb w4.heap.size (2 + 20 * i + 1) (1 + y) 0 0 0 0 ⟨#[]⟩ [] (.slice none 0 0) 0 0 ⟨#[]⟩ wx) := Lib.hid (by
        subst hWx
        exact ⟨XG.new w4 (1 + y), .inl ⟨rfl, rfl⟩, HT4.out.grown_new _, grown_trans HG4.out (World.grownBy_alloc w4 _ (some sb)), by omega, hz4⟩)
      have hxlt : sb < w4.heap.size := by omega
      have hfx := HHx.out.x.free
      have hzx : w4.heap.size < wx.heap.size := HHx.out.x.lt
      clear hWx HG4 HT4
      generalize hxb : w4.heap.size = xb at *
      clear hxb
      obtain ⟨K, hK, hK2⟩ : ∃ K, 2 + 20 * i + 1 = K ∧ K ≤ 400 := ⟨_, rfl, by omega⟩
      rw [hK] at HHx
      go_cut [] from 16 to 229 (fun wx => GX wr sb xb (K + 11) wx)
      case first =>
        clear hK HR
        generalize 1 + y = op at *
        obtain ⟨e0, e1, e2, e3, e4, e5, e6⟩ := HHx.out.x.cells7
        go_wp2_with fail
        · -- operation 1
          as_aux_lemma =>
            clear e0 e1 e2 e3 e4 e5 e6
            refine (c_TReg _ sb (K + 0) wx HHx.out.tape (by omega)).mono ?_
            rintro e w1 ⟨y1, rfl, l1, u1, ht, hg⟩
            have HH1 := Lib.hid (HHx.out.call hg ht)
            have hf1 := HH1.out.x.free
            have hz1 : xb < w1.heap.size := HH1.out.x.lt
            clear ht hg HHx hfx hzx
            obtain ⟨e0, e1, e2, e3, e4, e5, e6⟩ := HH1.out.x.cells7
            go_wp2_with fail
            have HH2 := Lib.hid (HH1.out.s1 y1)
            refine (c_TConst sb (K + 1) _ HH2.out.tape (by omega)).mono ?_
            rintro e w3 ⟨ck, ci, cs, rfl, hcs, ht, hg⟩
            have HH3 := Lib.hid (HH2.out.call hg ht)
            have hf3 := HH3.out.x.free
            have hz3 : xb < w3.heap.size := HH3.out.x.lt
            obtain ⟨f1, f2, f3, f4⟩ := HH3.out.x.cellsC
            clear ht hg HH1 HH2 hf1 hz1 e0 e1 e2 e3 e4 e5 e6
            go_wp2
            go_meet
            exact (HH3.out.sc ck ci cs).gx (by decide) hcs (by omega)
        · -- operation 2
          as_aux_lemma =>
            clear e0 e1 e2 e3 e4 e5 e6
            refine (c_TNext (3) sb (K + 0) wx HHx.out.tape (by omega) (by omega) (by omega)).mono ?_
            rintro e w1 ⟨y1, rfl, l1, u1, ht, hg⟩
            have HH1 := Lib.hid (HHx.out.call hg ht)
            have hf1 := HH1.out.x.free
            have hz1 : xb < w1.heap.size := HH1.out.x.lt
            clear ht hg HHx hfx hzx
            go_wp2_with fail
            refine (c_TReg _ sb (K + 1) w1 HH1.out.tape (by omega)).mono ?_
            rintro e w2 ⟨y2, rfl, l2, u2, ht, hg⟩
            have HH2 := Lib.hid (HH1.out.call hg ht)
            have hf2 := HH2.out.x.free
            have hz2 : xb < w2.heap.size := HH2.out.x.lt
            clear ht hg HH1 hf1 hz1
            go_wp2_with fail
            refine (c_TReg _ sb (K + 2) w2 HH2.out.tape (by omega)).mono ?_
            rintro e w3 ⟨y3, rfl, l3, u3, ht, hg⟩
            have HH3 := Lib.hid (HH2.out.call hg ht)
            have hf3 := HH3.out.x.free
            have hz3 : xb < w3.heap.size := HH3.out.x.lt
            clear ht hg HH2 hf2 hz2
            obtain ⟨e0, e1, e2, e3, e4, e5, e6⟩ := HH3.out.x.cells7
            go_wp2
            go_meet
            exact ((HH3.out.s1 _).s2 _).gx (by simp) (by decide) (by omega)
        · -- operation 3
          as_aux_lemma =>
            clear e0 e1 e2 e3 e4 e5 e6
            refine (c_TReg _ sb (K + 0) wx HHx.out.tape (by omega)).mono ?_
            rintro e w1 ⟨y1, rfl, l1, u1, ht, hg⟩
            have HH1 := Lib.hid (HHx.out.call hg ht)
            have hf1 := HH1.out.x.free
            have hz1 : xb < w1.heap.size := HH1.out.x.lt
            clear ht hg HHx hfx hzx
            go_wp2_with fail
            refine (c_TNext (2) sb (K + 1) w1 HH1.out.tape (by omega) (by omega) (by omega)).mono ?_
            rintro e w2 ⟨y2, rfl, l2, u2, ht, hg⟩
            have HH2 := Lib.hid (HH1.out.call hg ht)
            have hf2 := HH2.out.x.free
            have hz2 : xb < w2.heap.size := HH2.out.x.lt
            clear ht hg HH1 hf1 hz1
            go_wp2_with fail
            refine (c_TReg _ sb (K + 2) w2 HH2.out.tape (by omega)).mono ?_
            rintro e w3 ⟨y3, rfl, l3, u3, ht, hg⟩
            have HH3 := Lib.hid (HH2.out.call hg ht)
            have hf3 := HH3.out.x.free
            have hz3 : xb < w3.heap.size := HH3.out.x.lt
            clear ht hg HH2 hf2 hz2
            obtain ⟨e0, e1, e2, e3, e4, e5, e6⟩ := HH3.out.x.cells7
            go_wp2
            go_meet
            exact ((HH3.out.s1 _).s2 _).gx (by simp) (by decide) (by omega)
        · -- operation 4
          as_aux_lemma =>
            clear e0 e1 e2 e3 e4 e5 e6
            refine (c_TNext (2) sb (K + 0) wx HHx.out.tape (by omega) (by omega) (by omega)).mono ?_
            rintro e w1 ⟨y1, rfl, l1, u1, ht, hg⟩
            have HH1 := Lib.hid (HHx.out.call hg ht)
            have hf1 := HH1.out.x.free
            have hz1 : xb < w1.heap.size := HH1.out.x.lt
            clear ht hg HHx hfx hzx
            go_wp2_with fail
            refine (c_TReg _ sb (K + 1) w1 HH1.out.tape (by omega)).mono ?_
            rintro e w2 ⟨y2, rfl, l2, u2, ht, hg⟩
            have HH2 := Lib.hid (HH1.out.call hg ht)
            have hf2 := HH2.out.x.free
            have hz2 : xb < w2.heap.size := HH2.out.x.lt
            clear ht hg HH1 hf1 hz1
            go_wp2_with fail
            refine (c_TReg _ sb (K + 2) w2 HH2.out.tape (by omega)).mono ?_
            rintro e w3 ⟨y3, rfl, l3, u3, ht, hg⟩
            have HH3 := Lib.hid (HH2.out.call hg ht)
            have hf3 := HH3.out.x.free
            have hz3 : xb < w3.heap.size := HH3.out.x.lt
            clear ht hg HH2 hf2 hz2
            obtain ⟨e0, e1, e2, e3, e4, e5, e6⟩ := HH3.out.x.cells7
            go_wp2
            go_meet
            exact ((HH3.out.s1 _).s2 _).gx (by simp) (by decide) (by omega)
        · -- operation 5
          as_aux_lemma =>
            clear e0 e1 e2 e3 e4 e5 e6
            refine (c_TReg _ sb (K + 0) wx HHx.out.tape (by omega)).mono ?_
            rintro e w1 ⟨y1, rfl, l1, u1, ht, hg⟩
            have HH1 := Lib.hid (HHx.out.call hg ht)
            have hf1 := HH1.out.x.free
            have hz1 : xb < w1.heap.size := HH1.out.x.lt
            clear ht hg HHx hfx hzx
            go_wp2_with fail
            refine (c_TReg _ sb (K + 1) w1 HH1.out.tape (by omega)).mono ?_
            rintro e w2 ⟨y2, rfl, l2, u2, ht, hg⟩
            have HH2 := Lib.hid (HH1.out.call hg ht)
            have hf2 := HH2.out.x.free
            have hz2 : xb < w2.heap.size := HH2.out.x.lt
            clear ht hg HH1 hf1 hz1
            go_wp2_with fail
            refine (c_TReg _ sb (K + 2) w2 HH2.out.tape (by omega)).mono ?_
            rintro e w3 ⟨y3, rfl, l3, u3, ht, hg⟩
            have HH3 := Lib.hid (HH2.out.call hg ht)
            have hf3 := HH3.out.x.free
            have hz3 : xb < w3.heap.size := HH3.out.x.lt
            clear ht hg HH2 hf2 hz2
            go_wp2_with fail
            refine (c_TNext (3) sb (K + 3) w3 HH3.out.tape (by omega) (by omega) (by omega)).mono ?_
            rintro e w4 ⟨y4, rfl, l4, u4, ht, hg⟩
            have HH4 := Lib.hid (HH3.out.call hg ht)
            have hf4 := HH4.out.x.free
            have hz4 : xb < w4.heap.size := HH4.out.x.lt
            clear ht hg HH3 hf3 hz3
            obtain ⟨e0, e1, e2, e3, e4, e5, e6⟩ := HH4.out.x.cells7
            go_wp2
            go_meet
            exact ((((HH4.out.s1 _).s2 _).s3 _).s4 _).gx (by simp) (by decide) (by omega)
        · -- operation 6
          as_aux_lemma =>
            clear e0 e1 e2 e3 e4 e5 e6
            refine (c_TReg _ sb (K + 0) wx HHx.out.tape (by omega)).mono ?_
            rintro e w1 ⟨y1, rfl, l1, u1, ht, hg⟩
            have HH1 := Lib.hid (HHx.out.call hg ht)
            have hf1 := HH1.out.x.free
            have hz1 : xb < w1.heap.size := HH1.out.x.lt
            clear ht hg HHx hfx hzx
            go_wp2_with fail
            refine (c_TReg _ sb (K + 1) w1 HH1.out.tape (by omega)).mono ?_
            rintro e w2 ⟨y2, rfl, l2, u2, ht, hg⟩
            have HH2 := Lib.hid (HH1.out.call hg ht)
            have hf2 := HH2.out.x.free
            have hz2 : xb < w2.heap.size := HH2.out.x.lt
            clear ht hg HH1 hf1 hz1
            go_wp2_with fail
            refine (c_TReg _ sb (K + 2) w2 HH2.out.tape (by omega)).mono ?_
            rintro e w3 ⟨y3, rfl, l3, u3, ht, hg⟩
            have HH3 := Lib.hid (HH2.out.call hg ht)
            have hf3 := HH3.out.x.free
            have hz3 : xb < w3.heap.size := HH3.out.x.lt
            clear ht hg HH2 hf2 hz2
            obtain ⟨e0, e1, e2, e3, e4, e5, e6⟩ := HH3.out.x.cells7
            go_wp2
            go_meet
            exact (((HH3.out.s1 _).s2 _).s3 _).gx (by simp) (by decide) (by omega)
        · -- operation 7
          as_aux_lemma =>
            clear e0 e1 e2 e3 e4 e5 e6
            refine (c_TReg _ sb (K + 0) wx HHx.out.tape (by omega)).mono ?_
            rintro e w1 ⟨y1, rfl, l1, u1, ht, hg⟩
            have HH1 := Lib.hid (HHx.out.call hg ht)
            have hf1 := HH1.out.x.free
            have hz1 : xb < w1.heap.size := HH1.out.x.lt
            clear ht hg HHx hfx hzx
            go_wp2_with fail
            refine (c_TReg _ sb (K + 1) w1 HH1.out.tape (by omega)).mono ?_
            rintro e w2 ⟨y2, rfl, l2, u2, ht, hg⟩
            have HH2 := Lib.hid (HH1.out.call hg ht)
            have hf2 := HH2.out.x.free
            have hz2 : xb < w2.heap.size := HH2.out.x.lt
            clear ht hg HH1 hf1 hz1
            obtain ⟨e0, e1, e2, e3, e4, e5, e6⟩ := HH2.out.x.cells7
            go_wp2
            go_meet
            exact ((HH2.out.s1 _).s2 _).gx (by simp) (by decide) (by omega)
        · -- operation 14
          as_aux_lemma =>
            clear e0 e1 e2 e3 e4 e5 e6
            refine (c_TReg _ sb (K + 0) wx HHx.out.tape (by omega)).mono ?_
            rintro e w1 ⟨y1, rfl, l1, u1, ht, hg⟩
            have HH1 := Lib.hid (HHx.out.call hg ht)
            have hf1 := HH1.out.x.free
            have hz1 : xb < w1.heap.size := HH1.out.x.lt
            clear ht hg HHx hfx hzx
            go_wp2_with fail
            refine (c_TReg _ sb (K + 1) w1 HH1.out.tape (by omega)).mono ?_
            rintro e w2 ⟨y2, rfl, l2, u2, ht, hg⟩
            have HH2 := Lib.hid (HH1.out.call hg ht)
            have hf2 := HH2.out.x.free
            have hz2 : xb < w2.heap.size := HH2.out.x.lt
            clear ht hg HH1 hf1 hz1
            obtain ⟨e0, e1, e2, e3, e4, e5, e6⟩ := HH2.out.x.cells7
            go_wp2
            go_meet
            exact ((HH2.out.s1 _).s2 _).gx (by simp) (by decide) (by omega)
        · -- operation 18
          as_aux_lemma =>
            clear e0 e1 e2 e3 e4 e5 e6
            refine (c_TReg _ sb (K + 0) wx HHx.out.tape (by omega)).mono ?_
            rintro e w1 ⟨y1, rfl, l1, u1, ht, hg⟩
            have HH1 := Lib.hid (HHx.out.call hg ht)
            have hf1 := HH1.out.x.free
            have hz1 : xb < w1.heap.size := HH1.out.x.lt
            clear ht hg HHx hfx hzx
            go_wp2_with fail
            refine (c_TNext (2 + (q : Int)) sb (K + 1) w1 HH1.out.tape (by omega) (by omega) (by omega)).mono ?_
            rintro e w2 ⟨y2, rfl, l2, u2, ht, hg⟩
            have HH2 := Lib.hid (HH1.out.call hg ht)
            have hf2 := HH2.out.x.free
            have hz2 : xb < w2.heap.size := HH2.out.x.lt
            clear ht hg HH1 hf1 hz1
            obtain ⟨e0, e1, e2, e3, e4, e5, e6⟩ := HH2.out.x.cells7
            go_wp2
            go_meet
            exact ((HH2.out.s2 _).s4 _).gx (by simp) (by decide) (by omega)
        · -- operation 17
          as_aux_lemma =>
            clear e0 e1 e2 e3 e4 e5 e6
            refine (c_TNext (2 + (q : Int)) sb (K + 0) wx HHx.out.tape (by omega) (by omega) (by omega)).mono ?_
            rintro e w1 ⟨y1, rfl, l1, u1, ht, hg⟩
            have HH1 := Lib.hid (HHx.out.call hg ht)
            have hf1 := HH1.out.x.free
            have hz1 : xb < w1.heap.size := HH1.out.x.lt
            clear ht hg HHx hfx hzx
            obtain ⟨e0, e1, e2, e3, e4, e5, e6⟩ := HH1.out.x.cells7
            go_wp2
            go_meet
            exact (HH1.out.s4 _).gx (by simp) (by decide) (by omega)
        · -- operation 8
          as_aux_lemma =>
            clear e0 e1 e2 e3 e4 e5 e6
            refine (c_TReg _ sb (K + 0) wx HHx.out.tape (by omega)).mono ?_
            rintro e w1 ⟨y1, rfl, l1, u1, ht, hg⟩
            have HH1 := Lib.hid (HHx.out.call hg ht)
            have hf1 := HH1.out.x.free
            have hz1 : xb < w1.heap.size := HH1.out.x.lt
            clear ht hg HHx hfx hzx
            go_wp2_with fail
            refine (c_TReg _ sb (K + 1) w1 HH1.out.tape (by omega)).mono ?_
            rintro e w2 ⟨y2, rfl, l2, u2, ht, hg⟩
            have HH2 := Lib.hid (HH1.out.call hg ht)
            have hf2 := HH2.out.x.free
            have hz2 : xb < w2.heap.size := HH2.out.x.lt
            clear ht hg HH1 hf1 hz1
            go_wp2_with fail
            refine (c_TNext (7) sb (K + 2) w2 HH2.out.tape (by omega) (by omega) (by omega)).mono ?_
            rintro e w3 ⟨y3, rfl, l3, u3, ht, hg⟩
            have HH3 := Lib.hid (HH2.out.call hg ht)
            have hf3 := HH3.out.x.free
            have hz3 : xb < w3.heap.size := HH3.out.x.lt
            clear ht hg HH2 hf2 hz2
            obtain ⟨e0, e1, e2, e3, e4, e5, e6⟩ := HH3.out.x.cells7
            have HH4 := Lib.hid (((HH3.out.s1 y1).s2 y2).s4 (1 + y3))
            by_cases hy5 : 1 + y3 = 5
            · rw [hy5] at HH4
              have hy4 : y3 = 4 := by omega
              subst hy4
              go_wp2
              go_meet
              exact HH4.out.gx (by decide) (by decide) (by omega)
            · have k5 := beq_f hy5
              go_wp2_with fail
              refine (c_TReg _ sb (K + 3) _ HH4.out.tape (by omega)).mono ?_
              rintro e w5 ⟨y5, rfl, l5, u5, ht, hg⟩
              have HH5 := Lib.hid (HH4.out.call hg ht)
              have hf5 := HH5.out.x.free
              have hz5 : xb < w5.heap.size := HH5.out.x.lt
              obtain ⟨f0, f1, f2, f3, f4, f5, f6⟩ := HH5.out.x.cells7
              clear ht hg HH4 HH3 hf3 hz3 e0 e1 e2 e3 e4 e5 e6
              go_wp2
              go_meet
              exact (HH5.out.s3 y5).gx (by decide) (by decide) (by omega)
        · -- operation 11
          as_aux_lemma =>
            clear e0 e1 e2 e3 e4 e5 e6
            refine (c_TReg _ sb (K + 0) wx HHx.out.tape (by omega)).mono ?_
            rintro e w1 ⟨y1, rfl, l1, u1, ht, hg⟩
            have HH1 := Lib.hid (HHx.out.call hg ht)
            have hf1 := HH1.out.x.free
            have hz1 : xb < w1.heap.size := HH1.out.x.lt
            clear ht hg HHx hfx hzx
            go_wp2_with fail
            refine (c_TReg _ sb (K + 1) w1 HH1.out.tape (by omega)).mono ?_
            rintro e w2 ⟨y2, rfl, l2, u2, ht, hg⟩
            have HH2 := Lib.hid (HH1.out.call hg ht)
            have hf2 := HH2.out.x.free
            have hz2 : xb < w2.heap.size := HH2.out.x.lt
            clear ht hg HH1 hf1 hz1
            obtain ⟨e0, e1, e2, e3, e4, e5, e6⟩ := HH2.out.x.cells7
            go_wp2
            go_meet
            exact (((HH2.out.s2 _).s3 _).s5 _).gx (by simp) (by decide) (by omega)
        · -- operation 10
          as_aux_lemma =>
            clear e0 e1 e2 e3 e4 e5 e6
            refine (c_TReg _ sb (K + 0) wx HHx.out.tape (by omega)).mono ?_
            rintro e w1 ⟨y1, rfl, l1, u1, ht, hg⟩
            have HH1 := Lib.hid (HHx.out.call hg ht)
            have hf1 := HH1.out.x.free
            have hz1 : xb < w1.heap.size := HH1.out.x.lt
            clear ht hg HHx hfx hzx
            go_wp2_with fail
            refine (c_TReg _ sb (K + 1) w1 HH1.out.tape (by omega)).mono ?_
            rintro e w2 ⟨y2, rfl, l2, u2, ht, hg⟩
            have HH2 := Lib.hid (HH1.out.call hg ht)
            have hf2 := HH2.out.x.free
            have hz2 : xb < w2.heap.size := HH2.out.x.lt
            clear ht hg HH1 hf1 hz1
            obtain ⟨e0, e1, e2, e3, e4, e5, e6⟩ := HH2.out.x.cells7
            go_wp2
            go_meet
            exact (((HH2.out.s1 _).s2 _).s5 _).gx (by simp) (by decide) (by omega)
        · -- operation 13
          as_aux_lemma =>
            clear e0 e1 e2 e3 e4 e5 e6
            refine (c_TReg _ sb (K + 0) wx HHx.out.tape (by omega)).mono ?_
            rintro e w1 ⟨y1, rfl, l1, u1, ht, hg⟩
            have HH1 := Lib.hid (HHx.out.call hg ht)
            have hf1 := HH1.out.x.free
            have hz1 : xb < w1.heap.size := HH1.out.x.lt
            clear ht hg HHx hfx hzx
            go_wp2_with fail
            refine (c_TReg _ sb (K + 1) w1 HH1.out.tape (by omega)).mono ?_
            rintro e w2 ⟨y2, rfl, l2, u2, ht, hg⟩
            have HH2 := Lib.hid (HH1.out.call hg ht)
            have hf2 := HH2.out.x.free
            have hz2 : xb < w2.heap.size := HH2.out.x.lt
            clear ht hg HH1 hf1 hz1
            go_wp2_with fail
            refine (c_TNext (7) sb (K + 2) w2 HH2.out.tape (by omega) (by omega) (by omega)).mono ?_
            rintro e w3 ⟨y3, rfl, l3, u3, ht, hg⟩
            have HH3 := Lib.hid (HH2.out.call hg ht)
            have hf3 := HH3.out.x.free
            have hz3 : xb < w3.heap.size := HH3.out.x.lt
            clear ht hg HH2 hf2 hz2
            obtain ⟨e0, e1, e2, e3, e4, e5, e6⟩ := HH3.out.x.cells7
            go_wp2
            go_meet
            exact (((HH3.out.s1 _).s2 _).s4 _).gx (by simp) (by decide) (by omega)
        · -- operation 9
          as_aux_lemma =>
            clear e0 e1 e2 e3 e4 e5 e6
            refine (c_TReg _ sb (K + 0) wx HHx.out.tape (by omega)).mono ?_
            rintro e w1 ⟨y1, rfl, l1, u1, ht, hg⟩
            have HH1 := Lib.hid (HHx.out.call hg ht)
            have hf1 := HH1.out.x.free
            have hz1 : xb < w1.heap.size := HH1.out.x.lt
            clear ht hg HHx hfx hzx
            go_wp2_with fail
            refine (c_TReg _ sb (K + 1) w1 HH1.out.tape (by omega)).mono ?_
            rintro e w2 ⟨y2, rfl, l2, u2, ht, hg⟩
            have HH2 := Lib.hid (HH1.out.call hg ht)
            have hf2 := HH2.out.x.free
            have hz2 : xb < w2.heap.size := HH2.out.x.lt
            clear ht hg HH1 hf1 hz1
            go_wp2_with fail
            refine (c_TReg _ sb (K + 2) w2 HH2.out.tape (by omega)).mono ?_
            rintro e w3 ⟨y3, rfl, l3, u3, ht, hg⟩
            have HH3 := Lib.hid (HH2.out.call hg ht)
            have hf3 := HH3.out.x.free
            have hz3 : xb < w3.heap.size := HH3.out.x.lt
            clear ht hg HH2 hf2 hz2
            obtain ⟨e0, e1, e2, e3, e4, e5, e6⟩ := HH3.out.x.cells7
            go_wp2
            go_meet
            exact ((HH3.out.s1 _).s6a [y2, y3] rfl (by simp [World.setCell])).gx (by simp) (by decide) (by omega)
        · -- operation 12
          as_aux_lemma =>
            clear e0 e1 e2 e3 e4 e5 e6
            refine (c_TReg _ sb (K + 0) wx HHx.out.tape (by omega)).mono ?_
            rintro e w1 ⟨y1, rfl, l1, u1, ht, hg⟩
            have HH1 := Lib.hid (HHx.out.call hg ht)
            have hf1 := HH1.out.x.free
            have hz1 : xb < w1.heap.size := HH1.out.x.lt
            clear ht hg HHx hfx hzx
            go_wp2_with fail
            refine (c_TReg _ sb (K + 1) w1 HH1.out.tape (by omega)).mono ?_
            rintro e w2 ⟨y2, rfl, l2, u2, ht, hg⟩
            have HH2 := Lib.hid (HH1.out.call hg ht)
            have hf2 := HH2.out.x.free
            have hz2 : xb < w2.heap.size := HH2.out.x.lt
            clear ht hg HH1 hf1 hz1
            go_wp2_with fail
            refine (c_TReg _ sb (K + 2) w2 HH2.out.tape (by omega)).mono ?_
            rintro e w3 ⟨y3, rfl, l3, u3, ht, hg⟩
            have HH3 := Lib.hid (HH2.out.call hg ht)
            have hf3 := HH3.out.x.free
            have hz3 : xb < w3.heap.size := HH3.out.x.lt
            clear ht hg HH2 hf2 hz2
            obtain ⟨e0, e1, e2, e3, e4, e5, e6⟩ := HH3.out.x.cells7
            go_wp2
            go_meet
            exact ((HH3.out.s1 _).s6a [y2, y3] rfl (by simp [World.setCell])).gx (by simp) (by decide) (by omega)
        · -- operation 15
          as_aux_lemma =>
            clear e0 e1 e2 e3 e4 e5 e6
            refine (c_TReg _ sb (K + 0) wx HHx.out.tape (by omega)).mono ?_
            rintro e w1 ⟨y1, rfl, l1, u1, ht, hg⟩
            have HH1 := Lib.hid (HHx.out.call hg ht)
            have hf1 := HH1.out.x.free
            have hz1 : xb < w1.heap.size := HH1.out.x.lt
            clear ht hg HHx hfx hzx
            go_wp2_with fail
            refine (c_TReg _ sb (K + 1) w1 HH1.out.tape (by omega)).mono ?_
            rintro e w2 ⟨y2, rfl, l2, u2, ht, hg⟩
            have HH2 := Lib.hid (HH1.out.call hg ht)
            have hf2 := HH2.out.x.free
            have hz2 : xb < w2.heap.size := HH2.out.x.lt
            clear ht hg HH1 hf1 hz1
            obtain ⟨e0, e1, e2, e3, e4, e5, e6⟩ := HH2.out.x.cells7
            go_wp2
            go_meet
            exact (((HH2.out.s1 _).s5 _).s6a [y2] rfl (by simp [World.setCell])).gx (by simp) (by decide) (by omega)
        · -- operation 16
          as_aux_lemma =>
            clear e0 e1 e2 e3 e4 e5 e6
            refine (c_TReg _ sb (K + 0) wx HHx.out.tape (by omega)).mono ?_
            rintro e w1 ⟨y1, rfl, l1, u1, ht, hg⟩
            have HH1 := Lib.hid (HHx.out.call hg ht)
            have hf1 := HH1.out.x.free
            have hz1 : xb < w1.heap.size := HH1.out.x.lt
            clear ht hg HHx hfx hzx
            go_wp2_with fail
            refine (c_TReg _ sb (K + 1) w1 HH1.out.tape (by omega)).mono ?_
            rintro e w2 ⟨y2, rfl, l2, u2, ht, hg⟩
            have HH2 := Lib.hid (HH1.out.call hg ht)
            have hf2 := HH2.out.x.free
            have hz2 : xb < w2.heap.size := HH2.out.x.lt
            clear ht hg HH1 hf1 hz1
            obtain ⟨e0, e1, e2, e3, e4, e5, e6⟩ := HH2.out.x.cells7
            go_wp2
            go_meet
            exact (((HH2.out.s1 _).s5 _).s6a [y2] rfl (by simp [World.setCell])).gx (by simp) (by decide) (by omega)
        · -- operation 27
          as_aux_lemma =>
            clear e0 e1 e2 e3 e4 e5 e6
            refine (c_TReg _ sb (K + 0) wx HHx.out.tape (by omega)).mono ?_
            rintro e w1 ⟨y1, rfl, l1, u1, ht, hg⟩
            have HH1 := Lib.hid (HHx.out.call hg ht)
            have hf1 := HH1.out.x.free
            have hz1 : xb < w1.heap.size := HH1.out.x.lt
            clear ht hg HHx hfx hzx
            go_wp2_with fail
            refine (c_TNext (4) sb (K + 1) w1 HH1.out.tape (by omega) (by omega) (by omega)).mono ?_
            rintro e w2 ⟨y2, rfl, l2, u2, ht, hg⟩
            have HH2 := Lib.hid (HH1.out.call hg ht)
            have hf2 := HH2.out.x.free
            have hz2 : xb < w2.heap.size := HH2.out.x.lt
            clear ht hg HH1 hf1 hz1
            go_wp2_with fail
            refine (c_TReg _ sb (K + 2) w2 HH2.out.tape (by omega)).mono ?_
            rintro e w3 ⟨y3, rfl, l3, u3, ht, hg⟩
            have HH3 := Lib.hid (HH2.out.call hg ht)
            have hf3 := HH3.out.x.free
            have hz3 : xb < w3.heap.size := HH3.out.x.lt
            clear ht hg HH2 hf2 hz2
            obtain ⟨e0, e1, e2, e3, e4, e5, e6⟩ := HH3.out.x.cells7
            go_wp2
            go_meet
            exact (((HH3.out.s1 _).s4 _).s6a [y3] rfl (by simp [World.setCell])).gx (by simp) (by decide) (by omega)
        · -- operation 25
          as_aux_lemma =>
            clear e0 e1 e2 e3 e4 e5 e6
            refine (c_TNext (8) sb (K + 0) wx HHx.out.tape (by omega) (by omega) (by omega)).mono ?_
            rintro e w1 ⟨y1, rfl, l1, u1, ht, hg⟩
            have HH1 := Lib.hid (HHx.out.call hg ht)
            have hf1 := HH1.out.x.free
            have hz1 : xb < w1.heap.size := HH1.out.x.lt
            clear ht hg HHx hfx hzx
            obtain ⟨e0, e1, e2, e3, e4, e5, e6⟩ := HH1.out.x.cells7
            go_wp2
            go_meet
            exact (HH1.out.s4 _).gx (by simp) (by decide) (by omega)
        · -- operation 22
          as_aux_lemma =>
            go_meet
            exact (HHx.out.s0 19).gx (by simp) (by decide) (by omega)
        · -- operation 20
          as_aux_lemma =>
            clear e0 e1 e2 e3 e4 e5 e6
            refine (c_TReg _ sb (K + 0) wx HHx.out.tape (by omega)).mono ?_
            rintro e w1 ⟨y1, rfl, l1, u1, ht, hg⟩
            have HH1 := Lib.hid (HHx.out.call hg ht)
            have hf1 := HH1.out.x.free
            have hz1 : xb < w1.heap.size := HH1.out.x.lt
            clear ht hg HHx hfx hzx
            obtain ⟨e0, e1, e2, e3, e4, e5, e6⟩ := HH1.out.x.cells7
            go_wp2
            go_meet
            exact (HH1.out.s2 _).gx (by simp) (by decide) (by omega)
        · -- operation 21
          as_aux_lemma =>
            clear e0 e1 e2 e3 e4 e5 e6
            refine (c_TReg _ sb (K + 0) wx HHx.out.tape (by omega)).mono ?_
            rintro e w1 ⟨y1, rfl, l1, u1, ht, hg⟩
            have HH1 := Lib.hid (HHx.out.call hg ht)
            have hf1 := HH1.out.x.free
            have hz1 : xb < w1.heap.size := HH1.out.x.lt
            clear ht hg HHx hfx hzx
            obtain ⟨e0, e1, e2, e3, e4, e5, e6⟩ := HH1.out.x.cells7
            go_wp2
            go_meet
            exact (HH1.out.s2 _).gx (by simp) (by decide) (by omega)
        · -- operation 24
          as_aux_lemma =>
            clear e0 e1 e2 e3 e4 e5 e6
            refine (c_TReg _ sb (K + 0) wx HHx.out.tape (by omega)).mono ?_
            rintro e w1 ⟨y1, rfl, l1, u1, ht, hg⟩
            have HH1 := Lib.hid (HHx.out.call hg ht)
            have hf1 := HH1.out.x.free
            have hz1 : xb < w1.heap.size := HH1.out.x.lt
            clear ht hg HHx hfx hzx
            obtain ⟨e0, e1, e2, e3, e4, e5, e6⟩ := HH1.out.x.cells7
            go_wp2
            go_meet
            exact (HH1.out.s2 _).gx (by simp) (by decide) (by omega)
        · -- operation 0
          as_aux_lemma =>
            go_meet
            exact HHx.out.gx (by simp) (by decide) (by omega)
      case rest =>
        obtain ⟨x, av, hx, hag, hok, htp, hgr⟩ := hcut
        have HR5 := Lib.hid (HR.out.step hgr (htp.more (K' := 2 + 20 * (i + 1)) (by omega)))
        have hxl := hx.lt
        have hb2 : wc.cell? ⟨rb, 2, none⟩ = some iv := by rw [cell_of_row _ _ _ _ _ _ HR5.out.box]; rfl
        have hf2 : wc.frozen? ⟨rb, 2, none⟩ = false := by simp [World.frozen?, HR5.out.box]
        have hxc : ∀ i, wc.cell? ⟨xb, i, none⟩ = (gcell x.op x.dst x.a x.b x.imm x.nm av x.ck x.ci x.cs)[i]? := hx.cell
        have e0 := hxc 0
        have e1 := hxc 1
        have e2 := hxc 2
        have e3 := hxc 3
        have e4 := hxc 4
        have e5 := hxc 5
        have e6 := hxc 6
        have e7 := hxc 7
        have e8 := hxc 8
        have e9 := hxc 9
        have e10 := hxc 10
        have e11 := hxc 11
        have e12 := hxc 12
        have e13 := hxc 13
        have e14 := hxc 14
        simp [gcell] at e0 e1 e2 e3 e4 e5 e6 e7 e8 e9 e10 e11 e12 e13 e14
        obtain ⟨xs, ho, hr⟩ := HR5.out.own
        have HO := Lib.hid ho
        have HRR := Lib.hid hr
        have HAG := Lib.hid hag
        have HOK := Lib.hid hok
        have hrl := HR5.out.lt
        clear hxc hx hag hok htp hgr ho hr HR HHx hfx hzx
        go_wp2_with (first
          | (at_builtin; refine wpList_append_rd _ rfl (.tmp 225) (.tmp 227) 23 rfl (rb + 1) 38 i0 (.agg #[.int .i64 0, .int .i64 0, .int .i64 0, .int .i64 0, .int .i64 0, .string ⟨#[]⟩, .slice none 0 0, .int .i64 0, .string ⟨#[]⟩, .int .i64 0, .slice none 0 0, .int .i64 0, .int .i64 0, .string ⟨#[]⟩, .slice none 0 0]) 15 192 Tryz.underlying23 Hi0.out HI.out.1 HI.out.2.1 HI.out.2.2 rfl (by omega) iv l.length xs rfl (HO.out.alloc _) (wc.heap.size + 1) (some ⟨wc.heap.size, 0, none⟩) 1 1 (gcell x.op x.dst x.a x.b x.imm x.nm av x.ck x.ci x.cs).toList rfl (Rd.blk (cs := gcell x.op x.dst x.a x.b x.imm x.nm av x.ck x.ci x.cs) (blk_new _ _) rfl (by omega)) (gcell_one HAG.out) (by omega) (by simp; omega) ?_
             intro v5 w5 hown5 hg5 hat5
             obtain ⟨A5, c5, rfl⟩ := own_formT hown5
             have HR6 := Lib.hid (HR5.out.add HOK.out HAG.out HO.out HRR.out hown5 hg5)
             have hb5 : w5.cell? ⟨rb, 2, none⟩ = some iv := by
               rw [World.cell?_of_block (w := wc) (a := ⟨rb, 2, none⟩) ((hg5.block rb (by simp; omega) (fun e => by have := own_ge HO.out rb e.symm; omega)).trans ((below_new wc _).block rb hrl))]
               exact hb2
             have hf5 : w5.frozen? ⟨rb, 2, none⟩ = false := by
               have h1 : w5.heap[rb]? = _ := ((hg5.block rb (by simp; omega) (fun e => by have := own_ge HO.out rb e.symm; omega)).trans ((below_new wc _).block rb hrl)).trans HR5.out.box
               simp [World.frozen?, h1]
             clear hown5 hg5 hat5))
        go_roundw
        case rel => exact ⟨i + 1, l ++ [x], .slice A5 (i + 1) c5, by omega, by go_num, by simp [hl], by rw [hl] at HR6; exact HR6⟩
        case measure => simp [intOf]; omega
    · obtain rfl : q + 2 = i := by omega
      have hi1 : ¬ ((q + 2 : Nat) : Int) < 2 + (q : Int) := by omega
      go_upto_if 18 with fail
      iterate 6 go_step
      exact reg_tail w wr sb rb cb (2 + 20 * (q + 2)) p (2 + (q : Int)) l iv HR.out (by omega) (by omega) (by omega) (by omega) _ _ _ _ _ _ _ _ _ _ _ _ _ _ _ _ _ _ _ _ _ _ _ _ _ _ _ _ _ _ _ _ _ _ _ _ _ _ _ _ _ _ _ _ _ _ _ _ _ _ _ _ _ _ _ _ _ _ _ _ _ _ _ _ _ _ _ _ _ _ _ _ _ _ _ _ _ _ _ _ _ _ _ _ _ _ _ _ _ _ _ _ _ _ _ _ _ _ _ _ _ _ _ _ _ _ _ _ _ _ _ _ _ _ _ _ _ _ _ _ _ _ _ _ _ _ _ _ _ _ _ _ _ _ _ _ _ _ _ _ _ _ _ _ _ _ _ _ _ _ _ _ _ _ _ _ _ _ _ _ _ _ _ _ _ _ _ _ _ _ _ _ _ _ _ _ _ _ _ _ _ _ _ _ _ _ _ _ _ _ _ _ _ _ _ _ _ _ _ _ _ _ _ _ _ _ _ _ _ _ _ _ _ _ _ _ _ _ _ _ _ _ _ _ _ _ _ _ _ _ _ _ _ _ _ _ _ _ _ _ _ _ _ _ _ _ _ _ _ _
end Go.Proofs.YtdjldmpfginkdaaGreatDoor
