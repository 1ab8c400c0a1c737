/- The walk of tellaw2.TermLimits: it returns true. -/
import Derived.Test.YtdbflfakocaapaaDoorCons
import Derived.Test.YtdbflfakocaapaaDoorBox
import Derived.Test.YtdbflfakocaapaaDoorLawValidate
import Derived.Deep.RegionHeld3
namespace Go.Proofs.YtdbflfakocaapaaDoor
open Go.RowKit
attribute [local go_sem ↓] Go.wp_at_zero Go.wp_at_succ

def sInt : ByteArray := ⟨#[73, 110, 116]⟩
def tI : Ty := tNamed sInt []
def wideT (n : Nat) : Ty := tUnion (List.replicate n tI)
def deepT : Nat → Ty
  | 0 => tAny
  | n + 1 => tNamed sBox [deepT n]
theorem wide_sizes (n : Nat) : Ty.sizes (List.replicate n tI) = n := by
  induction n with
  | zero => rfl
  | succ n ih => rw [List.replicate_succ, Ty.sizes, ih]; show 1 + Ty.sizes [] + n = n + 1; simp [Ty.sizes]; omega
theorem wide_size (n : Nat) : (wideT n).size = 1 + n := by rw [Ty.size_eq]; show 1 + Ty.sizes (List.replicate n tI) = 1 + n; rw [wide_sizes]
theorem wide_ok (n : Nat) : (wideT n).ok := by
  rw [Ty.ok_eq]
  refine ⟨by unfold wideT tUnion inI; simp, by unfold wideT tUnion inI; simp, Ty.oks_of fun t ht => ?_⟩
  obtain ⟨_, rfl⟩ := List.mem_replicate.1 ht
  rw [Ty.ok_eq]
  exact ⟨by unfold tI tNamed inI; simp, by unfold tI tNamed inI; simp, by show Ty.oks []; unfold Ty.oks; trivial⟩
theorem deep_size (n : Nat) : (deepT n).size = n + 1 := by
  induction n with
  | zero => rfl
  | succ n ih => rw [Ty.size_eq]; show 1 + Ty.sizes [deepT n] = _; simp [Ty.sizes, ih]; omega
theorem deep_depth (n : Nat) : (deepT n).depth = n + 1 := by
  induction n with
  | zero => rfl
  | succ n ih => rw [Ty.depth_eq]; show Ty.depths [deepT n] + 1 = _; simp [Ty.depths, ih]
theorem deep_ok (n : Nat) : (deepT n).ok := by
  induction n with
  | zero => rw [Ty.ok_eq]; exact ⟨by unfold deepT tAny inI; simp, by unfold deepT tAny inI; simp, by show Ty.oks []; unfold Ty.oks; trivial⟩
  | succ n ih => rw [Ty.ok_eq]; exact ⟨by unfold deepT tNamed inI; simp, by unfold deepT tNamed inI; simp, by show Ty.oks [deepT n]; unfold Ty.oks; exact ⟨ih, by unfold Ty.oks; trivial⟩⟩
theorem wide_val1 (p : Nat) (h : p ≤ 2) : (wideT (197 + p)).validate = 0 := by
  rcases p with _ | _ | _ | p
  · decide +kernel
  · decide +kernel
  · decide +kernel
  · omega
theorem wide_val2 (p : Nat) (h : ¬ p ≤ 2) : ((wideT (197 + p)).validate == 0) = false := by
  rw [Ty.validate_big1 (by rw [wide_size]; omega)]; decide
theorem deep_val1 (p : Nat) (h : p ≤ 2) : (deepT (9 + p)).validate = 0 := by
  rcases p with _ | _ | _ | p
  · decide +kernel
  · decide +kernel
  · decide +kernel
  · omega
theorem deep_val2 (p : Nat) (h : ¬ p ≤ 2) : ((deepT (9 + p)).validate == 0) = false := by
  rw [Ty.validate_big2 (by rw [deep_depth]; omega)]; decide

theorem c_NamedInt (W : World) : Calls Tryd.prog 22 #[.string ⟨#[73, 110, 116]⟩, .slice none 0 0] W fun e w' => ∃ t1 u1, Hid (t1 = tI) ∧ e = .returned u1 ∧ IsTy w' W.heap.size w'.heap.size t1 u1 ∧ Below W.heap.size W w' :=
  (c_Named W.heap.size sInt [] (.slice none 0 0) W (IsTyl.nil none 0)).mono fun _ _ ⟨_, _, h1, h2, h3⟩ => ⟨_, _, Lib.hid rfl, h1, h2, h3⟩

theorem c_AnyD (W : World) : Calls Tryd.prog 23 #[] W fun e w' => ∃ (t1 : Ty) (A1 : Option Addr) (c1 : Nat), Hid (t1 = deepT 0) ∧ e = .returned (.agg #[.int .i64 t1.kind, .string t1.name, .int .i64 t1.index, .slice A1 t1.args.length c1]) ∧ Hid (∀ (W' : World) (L B : Nat), IsTy W' L B t1 (.agg #[.int .i64 t1.kind, .string t1.name, .int .i64 t1.index, .slice A1 t1.args.length c1])) ∧ Below W.heap.size W w' :=
  (c_Any W.heap.size W).mono fun _ _ ⟨A, c, h1, _, h3⟩ => ⟨tAny, A, c, Lib.hid rfl, h1, Lib.hid (fun _ _ _ => IsTy.mk_ (IsTyl.nil A c)), h3⟩
/-- While the second loop runs: the variable at block bd is the term of j nested boxes. -/
def DS (bd j : Nat) (w2 W : World) : Prop := ∃ (t : Ty) (A : Option Addr) (c : Nat), t = deepT j ∧ W.heap[bd]? = some (.cells #[.int .i64 t.kind, .string t.name, .int .i64 t.index, .slice A t.args.length c] 25 (0, 0)) ∧ IsTy W (bd + 1) W.heap.size t (.agg #[.int .i64 t.kind, .string t.name, .int .i64 t.index, .slice A t.args.length c]) ∧ Below bd w2 W


set_option maxRecDepth 20000 in
set_option maxHeartbeats 4000000 in
theorem c_lawTermLimits (n dd : Int) (w : World) (G : Nat) (_ : inI n) (_ : inI dd) (hE : EnvR w G) (hG : G ≤ w.heap.size) :
    Calls Tryd.prog 5 #[.int .i64 n, .int .i64 dd] w fun e w' => e = .returned (.bool true) ∧ Below w.heap.size w w' := by
  have HE := Lib.hid hE
  clear hE
  have HMN := Lib.hid (fun W => c_Mod_q n 5 W (by omega) (by omega))
  have HMD := Lib.hid (fun W => c_Mod_q dd 5 W (by omega) (by omega))
  obtain ⟨p, hp⟩ := Int.eq_ofNat_of_zero_le (Int.emod_nonneg n (show (5 : Int) ≠ 0 by omega))
  obtain ⟨q, hq⟩ := Int.eq_ofNat_of_zero_le (Int.emod_nonneg dd (show (5 : Int) ≠ 0 by omega))
  have hp5 := Int.emod_lt_of_pos n (show (0 : Int) < 5 by omega)
  have hq5 := Int.emod_lt_of_pos dd (show (0 : Int) < 5 by omega)
  rw [hp] at HMN hp5
  rw [hq] at HMD hq5
  clear hp hq
  have hp5' : p < 5 := by omega
  have hq5' : q < 5 := by omega
  go_enter Tryd.func5, Tryd.ntmps5
  go_wp2_with fail
  refine (HMN.out _).mono ?_
  rintro e w' ⟨rfl, rfl⟩
  have HBL0 : Hid (∃ v ts, ts.length = 0 ∧ (∀ t ∈ ts, t = tI) ∧ BL none w.heap.size w (w.alloc (.cells #[.int .i64 4, .string ⟨#[]⟩, .int .i64 0, .slice none 0 0] 25)) 4 ⟨#[]⟩ 0 v ts) := Lib.hid ⟨_, [], rfl, (fun t ht => by cases ht), BL.start (blk_new _ _) (grown_of_below (below_new _ _))⟩
  go_wp2
  go_loopw [7] (fun i wr => ∃ j : Nat, j ≤ 197 + p ∧ i = .int .i64 j ∧ Hid (∃ v ts, ts.length = j ∧ (∀ t ∈ ts, t = tI) ∧ BL none w.heap.size w wr 4 ⟨#[]⟩ 0 v ts)) (fun i _ => 197 + p - (intOf i).toNat)
  case atStart => exact ⟨0, by omega, rfl, HBL0⟩
  case round =>
    clear HBL0
    obtain ⟨j, hj, rfl, HBL⟩ := hrel
    obtain ⟨v, ts, hlen, hall, hal⟩ := HBL.out
    subst hlen
    have HALL := Lib.hid hall
    clear HBL hall
    by_cases hjm : ts.length < 197 + p
    · skip
      have HA := Lib.hid hal
      obtain ⟨A, c, rfl⟩ := hal.2.2.form
      have hltt := blk_lt' hal.1
      have hsgw := hal.2.1.size
      have HOG := Lib.hid hal.2.2.own_ge
      have b3 : wr.cell? ⟨w.heap.size, 3, none⟩ = some (.slice A ts.length c) := hal.cell0.2.2.2
      obtain ⟨i0, hi0, hz0, hz1, hz2⟩ := info_parts info_Type
      have HI : Hid (i0.zero = some (.agg #[.int .i64 0, .string ⟨#[]⟩, .int .i64 0, .slice none 0 0]) ∧ i0.size = 4 ∧ i0.bytes = 56) := Lib.hid ⟨hz0, hz1, hz2⟩
      clear hz0 hz1 hz2
      have Hi0 := Lib.hid hi0
      clear hi0 hal
      have hL4 : wr.heap.size ≤ wr.drew.heap.size := Nat.le_refl _
      go_wp2
      go_region_law (first
        | (have _t := tok4; refine step_append_rd _ ?_ (.tmp 20) (.tmp 22) _ ?_ (w.heap.size + 1) 25 i0 (.agg #[.int .i64 0, .string ⟨#[]⟩, .int .i64 0, .slice none 0 0]) 4 56 Tryd.underlying23 Hi0.out HI.out.1 HI.out.2.1 HI.out.2.2 rfl ?_ (.slice A ts.length c) ts.length xs ?_ ?_ (w4.heap.size + 1) (some ⟨w4.heap.size, 0, none⟩) 1 1 [.int .i64 t1.kind, .string t1.name, .int .i64 t1.index, .slice A1 t1.args.length c1] ?_ ?_ ?_ ?_ ?_ ?_; rfl; rfl; omega; rfl; exact hown4; rfl; exact Rd.blk (cs := #[.int .i64 t1.kind, .string t1.name, .int .i64 t1.index, .slice A1 t1.args.length c1]) (blk_new w4 _) rfl (by omega); exact (by simp [Value.oneCell']); omega; go_size; intro v5 w5 hown5 hg5 hat5
           have hs5 := hg5.size
           have ht5 := (hg5.block w.heap.size (by simp; omega) (fun e => by have := HOG.out (w.heap.size) e.symm; omega)).trans (blk_old ht4)
           have q3 : w5.cell? ⟨w.heap.size, 3, none⟩ = some (.slice A ts.length c) := by rw [cell_of_row w5 (w.heap.size) 3 _ _ _ ht5]; rfl
           have q4 : w5.frozen? ⟨w.heap.size, 3, none⟩ = false := by simp [World.frozen?, ht5]
           obtain ⟨A5, c5, rfl⟩ : ∃ A c, v5 = .slice A (ts.length + 1) c := by
             rcases hown5.2 with ⟨_, h0⟩ | ⟨g, cap, cur, rfl, _⟩
             · omega
             · exact ⟨_, _, rfl⟩
           have HFIN := Lib.hid (HA.out.round (row_none) (by omega) HG4.out hL4 HTY.out HEL.out hown4 hown5 hg5 hat5)
           clear hown5 hg5 hat5 ht5)
        | (go_simp; go_at_call 22; refine (c_NamedInt _).mono ?_; rintro e w4 ⟨t1, u1, ht1, rfl, hty1, hb4⟩
           have hg4 : wr.drew.grownBy w4 none := grown_of_below hb4
           clear hb4
           have tok4 : True := trivial
           have HTY := Lib.hid hty1
           obtain ⟨A1, c1, hvv, _⟩ := hty1.args_
           subst hvv
           have hs4 := hg4.size
           simp at hs4
           have hlt4 : w.heap.size < w4.heap.size := by omega
           have ht4 := HA.out.box4 (row_none) hg4
           have q43 : w4.cell? ⟨w.heap.size, 3, none⟩ = some (.slice A ts.length c) := by rw [cell_of_row w4 (w.heap.size) 3 _ _ _ ht4]; rfl
           obtain ⟨xs, hown4, hel4⟩ := HA.out.acc4 (row_none) hg4 (.cells #[.int .i64 t1.kind, .string t1.name, .int .i64 t1.index, .slice A1 t1.args.length c1] 25)
           have HEL := Lib.hid hel4
           have HG4 := Lib.hid hg4
           clear hel4 hty1 hg4
           ))
      all_goals
        have HALL2 : Hid (∀ t ∈ ts ++ [t1], t = tI) := Lib.hid (fun t ht => by
          rcases List.mem_append.1 ht with h | h
          · exact HALL.out t h
          · rw [List.mem_singleton.1 h]; exact ht1.out)
        clear HEL HG4 HTY hown4 q43 ht4 HA
        go_wp2
        go_roundw
        case rel => exact ⟨ts.length + 1, by omega, by go_num, Lib.hid ⟨_, _, by simp, HALL2.out, HFIN.out⟩⟩
        case measure => simp [intOf]; omega
    · rename World => wa
      have hjl : ts.length = 197 + p := by omega
      have hts : ts = List.replicate (197 + p) tI := List.eq_replicate_iff.2 ⟨hjl, HALL.out⟩
      obtain ⟨A, c, rfl⟩ := hal.2.2.form
      have HTW : Hid (IsTy wa 0 wa.heap.size (wideT (197 + p)) (.agg #[.int .i64 4, .string ⟨#[]⟩, .int .i64 0, .slice A ts.length c])) := Lib.hid (by have := hal.isTy (m := 0) (by omega); rw [hts] at this ⊢; exact this)
      have hbw : Below w.heap.size w wa := below_of_grown0 hal.2.1
      have hltw := blk_lt' hal.1
      obtain ⟨x0, x1, x2, x3⟩ := hal.cell0
      have HBX := Lib.hid (box_sk x0 x1 x2 x3 hltw)
      clear hal HALL hts x0 x1 x2 x3 hjl
      generalize ts.length = lw at *
      go_wp2_with fail
      refine (c_AnyD _).mono ?_
      rintro e w2 ⟨t1, A1, c1, ht1, rfl, hty1, hb2⟩
      have hs2 := hb2.size
      have HDS0 : Hid (∀ W : World, W = w2.alloc (.cells #[.int .i64 t1.kind, .string t1.name, .int .i64 t1.index, .slice A1 t1.args.length c1] 25) → DS w2.heap.size 0 w2 W) := Lib.hid (fun W hW => by
        subst hW
        exact ⟨t1, A1, c1, ht1.out, blk_new _ _, hty1.out _ _ _, below_new _ _⟩)
      go_wp2
      generalize hWW : w2.alloc _ = W0
      have HDS1 := Lib.hid (HDS0.out W0 hWW.symm)
      clear HDS0 hWW hty1 ht1
      generalize hbd : w2.heap.size = bd at *
      go_loopw [9] (fun i wx => ∃ j : Nat, j ≤ 9 + q ∧ i = .int .i64 (j + 1) ∧ Hid (DS bd j w2 wx)) (fun i _ => 10 + q - (intOf i).toNat)
      case atStart => exact ⟨0, by omega, rfl, HDS1⟩
      case round =>
        obtain ⟨j, hj, rfl, HDS⟩ := hrel
        clear HDS1
        have HDS' := HDS
        obtain ⟨t, A2, c2, ht, hbk, hty, hb⟩ := HDS.out
        have hltb := blk_lt' hbk
        have y0 : wr.cell? ⟨bd, 0, none⟩ = some (.int .i64 t.kind) := by rw [cell_of_row wr bd 0 _ _ _ hbk]; rfl
        have y1 : wr.cell? ⟨bd, 1, none⟩ = some (.string t.name) := by rw [cell_of_row wr bd 1 _ _ _ hbk]; rfl
        have y2 : wr.cell? ⟨bd, 2, none⟩ = some (.int .i64 t.index) := by rw [cell_of_row wr bd 2 _ _ _ hbk]; rfl
        have y3 : wr.cell? ⟨bd, 3, none⟩ = some (.slice A2 t.args.length c2) := by rw [cell_of_row wr bd 3 _ _ _ hbk]; rfl
        have HTT := Lib.hid hty
        have HBK := Lib.hid hbk
        have HTD := Lib.hid ht
        clear hty hbk HDS ht
        go_wp2_with fail
        refine (HMD.out _).mono ?_
        rintro e wr ⟨rfl, rfl⟩
        by_cases hjq : j < 9 + q
        · have HONE : Hid (∀ W : World, W = wr.alloc (.cells #[.int .i64 t.kind, .string t.name, .int .i64 t.index, .slice A2 t.args.length c2] 25) → IsTyl W (bd + 1) W.heap.size [t] (.slice (some ⟨wr.heap.size, 0, none⟩) 1 1)) := Lib.hid (fun W hW => by
            subst hW
            exact IsTyl.one (blk_new _ _) (by omega) (by simp) ((HTT.out.below (below_new _ _) (Nat.le_refl _)).more (Nat.le_refl _) (by simp)) 1)
          go_wp2_with fail
          refine (c_Named (bd + 1) sBox [t] _ _ (HONE.out _ rfl)).mono ?_
          rintro e w5 ⟨A5, c5, rfl, hty5, hb5⟩
          have hb5' : Below wr.heap.size wr w5 := below_step (below_new _ _) hb5
          have hbk5 := (hb5'.block bd hltb).trans HBK.out
          have z0 : w5.cell? ⟨bd, 0, none⟩ = some (.int .i64 t.kind) := by rw [cell_of_row w5 bd 0 _ _ _ hbk5]; rfl
          have z1 : w5.cell? ⟨bd, 1, none⟩ = some (.string t.name) := by rw [cell_of_row w5 bd 1 _ _ _ hbk5]; rfl
          have z2 : w5.cell? ⟨bd, 2, none⟩ = some (.int .i64 t.index) := by rw [cell_of_row w5 bd 2 _ _ _ hbk5]; rfl
          have z3 : w5.cell? ⟨bd, 3, none⟩ = some (.slice A2 t.args.length c2) := by rw [cell_of_row w5 bd 3 _ _ _ hbk5]; rfl
          have f0 : w5.frozen? ⟨bd, 0, none⟩ = false := by simp [World.frozen?, hbk5]
          have f1 : w5.frozen? ⟨bd, 1, none⟩ = false := by simp [World.frozen?, hbk5]
          have f2 : w5.frozen? ⟨bd, 2, none⟩ = false := by simp [World.frozen?, hbk5]
          have f3 : w5.frozen? ⟨bd, 3, none⟩ = false := by simp [World.frozen?, hbk5]
          have HT5 : Hid (tNamed sBox [t] = deepT (j + 1)) := Lib.hid (by rw [HTD.out]; rfl)
          have HTY5 := Lib.hid hty5
          have HBK5 := Lib.hid hbk5
          clear hty5 hb5 hbk5
          generalize tNamed sBox [t] = t5 at *
          go_wp2
          obtain ⟨s1, s2, s3⟩ := set4 (.int .i64 t5.kind) (.string t5.name) (.int .i64 t5.index) (.slice A5 t5.args.length c5) HBK5.out
          refine ⟨⟨j + 1, by omega, by go_num, Lib.hid ⟨t5, A5, c5, HT5.out, s1, ?_, ?_⟩⟩, by simp [intOf]; omega⟩
          · exact HTY5.out.keep (fun b h1 h2 => s2 b (by omega)) (Nat.le_refl _) (by rw [s3]; exact Nat.le_refl _)
          · exact ⟨hb5'.os.trans hb.os, hb5'.tape.trans hb.tape, hb5'.output.trans hb.output, by rw [s3]; have := hb.size; have := hb5'.size; omega, fun k hk => (s2 k (by omega)).trans ((hb5'.block k (by omega)).trans (hb.block k hk))⟩
        · obtain rfl : j = 9 + q := by omega
          have hbwx : Below wa.heap.size wa wr := hb2.trans (hb.mono (by omega))
          have hbww : Below w.heap.size w wr := hbw.trans (hbwx.mono hbw.size)
          have hle1 := hbwx.size
          have hle2 := hbww.size
          have HSK := Lib.hid (box_sk2 (HBX.out _ hbwx).2 ⟨y0, y1, y2, y3⟩ (by omega) hltb)
          have HV1 := Lib.hid (wide_val1 p)
          have HV2 := Lib.hid (wide_val2 p)
          have HD1 := Lib.hid (deep_val1 q)
          have HD2 := Lib.hid (deep_val2 q)
          have hsw : (wideT (197 + p)).size ≤ 2 ^ 30 := by rw [wide_size]; omega
          have hsd : (deepT (9 + q)).size ≤ 2 ^ 30 := by rw [deep_size]; omega
          have htd := HTD.out
          subst htd
          have HCK : Hid (∀ W : World, Below wr.heap.size wr W → Calls Tryd.prog 14 #[] W fun e w' => e = .returned (.bool true) ∧ Below W.heap.size W w') := Lib.hid (fun W hW => c_check W G ((HE.out.below hbww hG).below hW (by omega)) (by have := hW.size; omega))
          have HVW : Hid (∀ W : World, Below wr.heap.size wr W → Calls Tryd.prog 15 #[.agg #[.int .i64 4, .string ⟨#[]⟩, .int .i64 0, .slice A lw c]] W fun e w' => e = .returned (.int .i64 (wideT (197 + p)).validate) ∧ Below W.heap.size W w') := Lib.hid (fun W hW => c_Validate _ W _ _ G _ ((HTW.out.below hbwx (Nat.le_refl _)).below hW hle1) (Nat.le_trans hle1 hW.size) (wide_ok _) hsw ((HE.out.below hbww hG).below hW (by omega)) (by have := hW.size; omega))
          have HRW : Hid (∀ W : World, Below wr.heap.size wr W → Calls Tryd.prog 16 #[.agg #[.int .i64 4, .string ⟨#[]⟩, .int .i64 0, .slice A lw c]] W fun e w' => e = .returned (.int .i64 (wideT (197 + p)).validate) ∧ Below W.heap.size W w') := Lib.hid (fun W hW => c_TermValidate _ W _ _ _ ((HTW.out.below hbwx (Nat.le_refl _)).below hW hle1) (Nat.le_trans hle1 hW.size) (wide_ok _) hsw)
          have HVD : Hid (∀ W : World, Below wr.heap.size wr W → Calls Tryd.prog 15 #[.agg #[.int .i64 (deepT (9 + q)).kind, .string (deepT (9 + q)).name, .int .i64 (deepT (9 + q)).index, .slice A2 (deepT (9 + q)).args.length c2]] W fun e w' => e = .returned (.int .i64 (deepT (9 + q)).validate) ∧ Below W.heap.size W w') := Lib.hid (fun W hW => c_Validate _ W _ _ G _ (HTT.out.below hW (Nat.le_refl _)) hW.size (deep_ok _) hsd ((HE.out.below hbww hG).below hW (by omega)) (by have := hW.size; omega))
          have HRD : Hid (∀ W : World, Below wr.heap.size wr W → Calls Tryd.prog 16 #[.agg #[.int .i64 (deepT (9 + q)).kind, .string (deepT (9 + q)).name, .int .i64 (deepT (9 + q)).index, .slice A2 (deepT (9 + q)).args.length c2]] W fun e w' => e = .returned (.int .i64 (deepT (9 + q)).validate) ∧ Below W.heap.size W w') := Lib.hid (fun W hW => c_TermValidate _ W _ _ _ (HTT.out.below hW (Nat.le_refl _)) hW.size (deep_ok _) hsd)
          have hdq : (((deepT (9 + q)).depth : Nat) : Int) = 10 + (q : Int) := by rw [deep_depth]; omega
          have HDD : Hid (∀ W : World, Below wr.heap.size wr W → Calls Tryd.prog 24 #[.agg #[.int .i64 (deepT (9 + q)).kind, .string (deepT (9 + q)).name, .int .i64 (deepT (9 + q)).index, .slice A2 (deepT (9 + q)).args.length c2]] W fun e w' => e = .returned (.int .i64 (10 + (q : Int))) ∧ Below W.heap.size W w') := Lib.hid (fun W hW => by rw [← hdq]; exact c_TermDepth _ _ W _ _ _ (Nat.le_refl _) (HTT.out.below hW (Nat.le_refl _)) hW.size (Nat.le_trans hsd (by decide)))
          clear hsw hsd hdq HTT HTD HBK HTW HBX HDS' y0 y1 y2 y3
          generalize (wideT (197 + p)).validate = vw, (deepT (9 + q)).validate = vd at *
          generalize (deepT (9 + q)).kind = kt, (deepT (9 + q)).name = nt, (deepT (9 + q)).index = it, (deepT (9 + q)).args.length = lt at *
          have hwp : Hid (IntKind.i64.wrap (197 + (p : Int) + 1) = 197 + (p : Int) + 1) := Lib.hid (IntWalk.i64_in _ (by omega))
          go_wp2
          by_cases hp2 : p ≤ 2 <;> by_cases hq2 : q ≤ 2
          · obtain rfl := HV1.out hp2
            have hlp : decide (IntKind.i64.wrap (197 + (p : Int) + 1) ≤ 200) = true := by rw [hwp.out]; simp; omega
            obtain rfl := HD1.out hq2
            have hlq : decide (10 + (q : Int) ≤ 12) = true := by simp; omega
            go_region_held3 (fun W' : World => Below wr.heap.size wr W' ∧ (W'.cell? ⟨w.heap.size, 0, none⟩ = some (.int .i64 4) ∧ W'.cell? ⟨w.heap.size, 1, none⟩ = some (.string ⟨#[]⟩) ∧ W'.cell? ⟨w.heap.size, 2, none⟩ = some (.int .i64 0) ∧ W'.cell? ⟨w.heap.size, 3, none⟩ = some (.slice A lw c)) ∧ (W'.cell? ⟨bd, 0, none⟩ = some (.int .i64 kt) ∧ W'.cell? ⟨bd, 1, none⟩ = some (.string nt) ∧ W'.cell? ⟨bd, 2, none⟩ = some (.int .i64 it) ∧ W'.cell? ⟨bd, 3, none⟩ = some (.slice A2 lt c2)))
              (first | exact HSK.out _ (below_drew _) | exact HSK.out _ (below_step (And.left (by assumption)) hbn))
              (first
              | (go_at_call 14; refine (HCK.out _ ?hbel).mono ?_; (case hbel => exact And.left (by assumption)); rintro e wn ⟨rfl, hbn⟩)
              | (go_at_call_of 15 (Value.agg #[.int .i64 4, .string ⟨#[]⟩, .int .i64 0, .slice A lw c]); refine (HVW.out _ ?hbel).mono ?_; (case hbel => exact And.left (by assumption)); rintro e wn ⟨rfl, hbn⟩)
              | (go_at_call_of 15 (Value.agg #[.int .i64 kt, .string nt, .int .i64 it, .slice A2 lt c2]); refine (HVD.out _ ?hbel).mono ?_; (case hbel => exact And.left (by assumption)); rintro e wn ⟨rfl, hbn⟩)
              | (go_at_call 24; refine (HDD.out _ ?hbel).mono ?_; (case hbel => exact And.left (by assumption)); rintro e wn ⟨rfl, hbn⟩)
              | (go_at_call_of 16 (Value.agg #[.int .i64 4, .string ⟨#[]⟩, .int .i64 0, .slice A lw c]); refine (HRW.out _ ?hbel).mono ?_; (case hbel => exact And.left (by assumption)); rintro e wn ⟨rfl, hbn⟩)
              | (go_at_call_of 16 (Value.agg #[.int .i64 kt, .string nt, .int .i64 it, .slice A2 lt c2]); refine (HRD.out _ ?hbel).mono ?_; (case hbel => exact And.left (by assumption)); rintro e wl ⟨rfl, hbn⟩))
            have hbl : Below wr.heap.size wr wl := And.left (by assumption)
            go_wp2
            go_ret
            exact ⟨rfl, hbww.trans (hbl.mono hbww.size)⟩
          · obtain rfl := HV1.out hp2
            have hlp : decide (IntKind.i64.wrap (197 + (p : Int) + 1) ≤ 200) = true := by rw [hwp.out]; simp; omega
            have hvd := HD2.out hq2
            have hlq : decide (10 + (q : Int) ≤ 12) = false := by simp; omega
            go_region_held3 (fun W' : World => Below wr.heap.size wr W' ∧ (W'.cell? ⟨w.heap.size, 0, none⟩ = some (.int .i64 4) ∧ W'.cell? ⟨w.heap.size, 1, none⟩ = some (.string ⟨#[]⟩) ∧ W'.cell? ⟨w.heap.size, 2, none⟩ = some (.int .i64 0) ∧ W'.cell? ⟨w.heap.size, 3, none⟩ = some (.slice A lw c)) ∧ (W'.cell? ⟨bd, 0, none⟩ = some (.int .i64 kt) ∧ W'.cell? ⟨bd, 1, none⟩ = some (.string nt) ∧ W'.cell? ⟨bd, 2, none⟩ = some (.int .i64 it) ∧ W'.cell? ⟨bd, 3, none⟩ = some (.slice A2 lt c2)))
              (first | exact HSK.out _ (below_drew _) | exact HSK.out _ (below_step (And.left (by assumption)) hbn))
              (first
              | (go_at_call 14; refine (HCK.out _ ?hbel).mono ?_; (case hbel => exact And.left (by assumption)); rintro e wn ⟨rfl, hbn⟩)
              | (go_at_call_of 15 (Value.agg #[.int .i64 4, .string ⟨#[]⟩, .int .i64 0, .slice A lw c]); refine (HVW.out _ ?hbel).mono ?_; (case hbel => exact And.left (by assumption)); rintro e wn ⟨rfl, hbn⟩)
              | (go_at_call_of 15 (Value.agg #[.int .i64 kt, .string nt, .int .i64 it, .slice A2 lt c2]); refine (HVD.out _ ?hbel).mono ?_; (case hbel => exact And.left (by assumption)); rintro e wn ⟨rfl, hbn⟩)
              | (go_at_call 24; refine (HDD.out _ ?hbel).mono ?_; (case hbel => exact And.left (by assumption)); rintro e wn ⟨rfl, hbn⟩)
              | (go_at_call_of 16 (Value.agg #[.int .i64 4, .string ⟨#[]⟩, .int .i64 0, .slice A lw c]); refine (HRW.out _ ?hbel).mono ?_; (case hbel => exact And.left (by assumption)); rintro e wn ⟨rfl, hbn⟩)
              | (go_at_call_of 16 (Value.agg #[.int .i64 kt, .string nt, .int .i64 it, .slice A2 lt c2]); refine (HRD.out _ ?hbel).mono ?_; (case hbel => exact And.left (by assumption)); rintro e wl ⟨rfl, hbn⟩))
            have hbl : Below wr.heap.size wr wl := And.left (by assumption)
            go_wp2
            go_ret
            exact ⟨rfl, hbww.trans (hbl.mono hbww.size)⟩
          · have hvw := HV2.out hp2
            have hlp : decide (IntKind.i64.wrap (197 + (p : Int) + 1) ≤ 200) = false := by rw [hwp.out]; simp; omega
            obtain rfl := HD1.out hq2
            have hlq : decide (10 + (q : Int) ≤ 12) = true := by simp; omega
            go_region_held3 (fun W' : World => Below wr.heap.size wr W' ∧ (W'.cell? ⟨w.heap.size, 0, none⟩ = some (.int .i64 4) ∧ W'.cell? ⟨w.heap.size, 1, none⟩ = some (.string ⟨#[]⟩) ∧ W'.cell? ⟨w.heap.size, 2, none⟩ = some (.int .i64 0) ∧ W'.cell? ⟨w.heap.size, 3, none⟩ = some (.slice A lw c)) ∧ (W'.cell? ⟨bd, 0, none⟩ = some (.int .i64 kt) ∧ W'.cell? ⟨bd, 1, none⟩ = some (.string nt) ∧ W'.cell? ⟨bd, 2, none⟩ = some (.int .i64 it) ∧ W'.cell? ⟨bd, 3, none⟩ = some (.slice A2 lt c2)))
              (first | exact HSK.out _ (below_drew _) | exact HSK.out _ (below_step (And.left (by assumption)) hbn))
              (first
              | (go_at_call 14; refine (HCK.out _ ?hbel).mono ?_; (case hbel => exact And.left (by assumption)); rintro e wn ⟨rfl, hbn⟩)
              | (go_at_call_of 15 (Value.agg #[.int .i64 4, .string ⟨#[]⟩, .int .i64 0, .slice A lw c]); refine (HVW.out _ ?hbel).mono ?_; (case hbel => exact And.left (by assumption)); rintro e wn ⟨rfl, hbn⟩)
              | (go_at_call_of 15 (Value.agg #[.int .i64 kt, .string nt, .int .i64 it, .slice A2 lt c2]); refine (HVD.out _ ?hbel).mono ?_; (case hbel => exact And.left (by assumption)); rintro e wn ⟨rfl, hbn⟩)
              | (go_at_call 24; refine (HDD.out _ ?hbel).mono ?_; (case hbel => exact And.left (by assumption)); rintro e wn ⟨rfl, hbn⟩)
              | (go_at_call_of 16 (Value.agg #[.int .i64 4, .string ⟨#[]⟩, .int .i64 0, .slice A lw c]); refine (HRW.out _ ?hbel).mono ?_; (case hbel => exact And.left (by assumption)); rintro e wn ⟨rfl, hbn⟩)
              | (go_at_call_of 16 (Value.agg #[.int .i64 kt, .string nt, .int .i64 it, .slice A2 lt c2]); refine (HRD.out _ ?hbel).mono ?_; (case hbel => exact And.left (by assumption)); rintro e wl ⟨rfl, hbn⟩))
            have hbl : Below wr.heap.size wr wl := And.left (by assumption)
            go_wp2
            go_ret
            exact ⟨rfl, hbww.trans (hbl.mono hbww.size)⟩
          · have hvw := HV2.out hp2
            have hlp : decide (IntKind.i64.wrap (197 + (p : Int) + 1) ≤ 200) = false := by rw [hwp.out]; simp; omega
            have hvd := HD2.out hq2
            have hlq : decide (10 + (q : Int) ≤ 12) = false := by simp; omega
            go_region_held3 (fun W' : World => Below wr.heap.size wr W' ∧ (W'.cell? ⟨w.heap.size, 0, none⟩ = some (.int .i64 4) ∧ W'.cell? ⟨w.heap.size, 1, none⟩ = some (.string ⟨#[]⟩) ∧ W'.cell? ⟨w.heap.size, 2, none⟩ = some (.int .i64 0) ∧ W'.cell? ⟨w.heap.size, 3, none⟩ = some (.slice A lw c)) ∧ (W'.cell? ⟨bd, 0, none⟩ = some (.int .i64 kt) ∧ W'.cell? ⟨bd, 1, none⟩ = some (.string nt) ∧ W'.cell? ⟨bd, 2, none⟩ = some (.int .i64 it) ∧ W'.cell? ⟨bd, 3, none⟩ = some (.slice A2 lt c2)))
              (first | exact HSK.out _ (below_drew _) | exact HSK.out _ (below_step (And.left (by assumption)) hbn))
              (first
              | (go_at_call 14; refine (HCK.out _ ?hbel).mono ?_; (case hbel => exact And.left (by assumption)); rintro e wn ⟨rfl, hbn⟩)
              | (go_at_call_of 15 (Value.agg #[.int .i64 4, .string ⟨#[]⟩, .int .i64 0, .slice A lw c]); refine (HVW.out _ ?hbel).mono ?_; (case hbel => exact And.left (by assumption)); rintro e wn ⟨rfl, hbn⟩)
              | (go_at_call_of 15 (Value.agg #[.int .i64 kt, .string nt, .int .i64 it, .slice A2 lt c2]); refine (HVD.out _ ?hbel).mono ?_; (case hbel => exact And.left (by assumption)); rintro e wn ⟨rfl, hbn⟩)
              | (go_at_call 24; refine (HDD.out _ ?hbel).mono ?_; (case hbel => exact And.left (by assumption)); rintro e wn ⟨rfl, hbn⟩)
              | (go_at_call_of 16 (Value.agg #[.int .i64 4, .string ⟨#[]⟩, .int .i64 0, .slice A lw c]); refine (HRW.out _ ?hbel).mono ?_; (case hbel => exact And.left (by assumption)); rintro e wn ⟨rfl, hbn⟩)
              | (go_at_call_of 16 (Value.agg #[.int .i64 kt, .string nt, .int .i64 it, .slice A2 lt c2]); refine (HRD.out _ ?hbel).mono ?_; (case hbel => exact And.left (by assumption)); rintro e wl ⟨rfl, hbn⟩))
            have hbl : Below wr.heap.size wr wl := And.left (by assumption)
            go_wp2
            go_ret
            exact ⟨rfl, hbww.trans (hbl.mono hbww.size)⟩
end Go.Proofs.YtdbflfakocaapaaDoor
