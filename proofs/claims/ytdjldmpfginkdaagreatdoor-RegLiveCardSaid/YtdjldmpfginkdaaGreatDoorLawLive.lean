/- The walk of tellaw27.RegLive: it returns true. -/
import Derived.Test.YtdjldmpfginkdaaGreatDoorGHead
import Derived.Test.YtdjldmpfginkdaaGreatDoorGRegD
import Derived.Test.YtdjldmpfginkdaaGreatDoorGSane
import Derived.Test.YtdjldmpfginkdaaGreatDoorVal2
import Derived.Deep.RegionHeld3
namespace Go.Proofs.YtdjldmpfginkdaaGreatDoor
open Go.RowKit
attribute [local go_sem ↓] Go.wp_at_zero Go.wp_at_succ

theorem mem_live {r : Rc} {i n : Nat} (hn : n < r.classes.length) : (n : Int) ∈ r.live i ↔ LiveP r i n := by
  unfold Rc.live
  simp only [List.mem_map, List.mem_filter, List.mem_range, decide_eq_true_eq]
  constructor
  · rintro ⟨q, ⟨_, h2⟩, e⟩
    obtain rfl : q = n := by omega
    exact h2
  · exact fun h => ⟨n, ⟨hn, h⟩, rfl⟩
/-- The equation. -/
theorem live_eq {r : Rc} {i n : Nat} {x : Ins} (hx : r.instrs[i]? = some x) (hn : n < r.classes.length) :
    decide ((n : Int) ∈ r.live i) = (decide ((n : Int) ∈ x.uses) || (!(oD x.op && decide (x.dst = (n : Int))) && (r.succ i).any fun a => decide ((n : Int) ∈ r.live a))) := by
  rw [Bool.eq_iff_iff]
  simp only [decide_eq_true_eq, Bool.or_eq_true, Bool.and_eq_true, Bool.not_eq_true', Bool.and_eq_false_iff, decide_eq_false_iff_not, List.any_eq_true]
  rw [mem_live hn, liveP_iff hx]
  constructor
  · rintro (h | ⟨h1, j, h2, h3⟩)
    · exact .inl h
    · refine .inr ⟨?_, j, h2, (mem_live hn).2 h3⟩
      cases hd : oD x.op
      · exact .inl rfl
      · exact .inr fun e => h1 ⟨hd, e⟩
  · rintro (h | ⟨h1, j, h2, h3⟩)
    · exact .inl h
    · refine .inr ⟨?_, j, h2, (mem_live hn).1 h3⟩
      rintro ⟨e1, e2⟩
      rcases h1 with h1 | h1
      · rw [e1] at h1; cases h1
      · exact h1 e2
theorem lives_get {r : Rc} {i : Nat} {l : List Int} (h : r.lives[i]? = some l) : l = r.live i := by
  unfold Rc.lives at h
  rw [List.getElem?_map] at h
  cases hr : (List.range r.instrs.length)[i]? with
  | none => rw [hr] at h; cases h
  | some j =>
    rw [hr] at h
    have := List.getElem?_eq_some_iff.1 hr
    obtain ⟨h1, h2⟩ := this
    rw [List.getElem_range] at h2
    subst h2
    simpa using h.symm
theorem rows_at0 {w : World} {B : Nat} {ls : List (List Int)} {g n c : Nat} (h : IsRows w B ls (.slice (some ⟨g, 0, none⟩) n c)) {j : Nat} (hj : j < n) :
    ∃ l u, ls[j]? = some l ∧ w.cell? ⟨g, j, none⟩ = some u ∧ IsInts w B l u := by
  obtain ⟨g', o', l, u, hA, _, h1, h2, h3⟩ := h.at_ hj
  simp only [Option.some.injEq, Addr.mk.injEq, and_true] at hA
  obtain ⟨rfl, rfl⟩ := hA
  rw [Nat.zero_add] at h2
  exact ⟨l, u, h1, h2, h3⟩
set_option maxRecDepth 100000 in
set_option maxHeartbeats 16000000 in
theorem c_lawRegLive (xs : List Int) (v : Value) (w : World) (G : Nat) (hv : IsInts w w.heap.size xs v) (hx : ∀ x ∈ xs, inI x) (hn : xs.length ≤ 2 ^ 47) (hR : EnvR w G) (hE : EnvS w G) (hG : G ≤ w.heap.size) :
    Calls Tryz.prog 4 #[v] w fun e w' => e = .returned (.bool true) ∧ Below w.heap.size w w' := by
  have HN := Lib.hid (c_TNew xs v w hv hx hn)
  obtain ⟨Av, cv, rfl, _⟩ := hv
  have HE := Lib.hid hE
  have HR := Lib.hid hR
  clear hE hR hx hn
  generalize xs.length = nx at *
  go_enter Tryz.func4, Tryz.ntmps4
  go_wp2_with fail
  refine HN.out.mono ?_
  rintro e w1 ⟨rfl, hst1, hb1, hs1⟩
  have HST1 := Lib.hid hst1
  clear hst1 HN
  go_wp2_with fail
  refine (c_TGen2 w.heap.size w1 HST1.out).mono ?_
  rintro e w2 ⟨r, cls, IA, ic, rfl, hrc, hr0, hr1, hrcl, hre, hg2⟩
  have hb2 : Below w.heap.size w w2 := hb1.trans (below_of_grownT hg2 (Nat.le_refl _) (by omega))
  have HRC := Lib.hid hrc
  obtain ⟨CA, cc, rfl, _⟩ := hrc.cls
  have hml : r.classes.length = 7 := by rw [hrcl]; rfl
  have HE2 := Lib.hid (HE.out.below hb2 hG)
  have HR2 := Lib.hid (HR.out.below hb2 hG)
  have hG2 : G ≤ w2.heap.size := Nat.le_trans hG hb2.size
  have HBW := Lib.hid hb2
  have hsw := hb2.size
  clear hrc hrcl hb1 hg2 hs1 HST1 HE HR hb2 hre
  rw [hml]
  have HBX := Lib.hid (Bx.start w2 (.int .i64 r.params) (.slice CA 7 cc) (.slice IA r.instrs.length ic) (.slice none r.edits 0))
  have HLV : Hid (∀ W : World, Below w2.heap.size w2 W → Calls Tryz.prog 12 #[.agg #[.int .i64 r.params, .slice CA 7 cc, .slice IA r.instrs.length ic, .slice none r.edits 0]] W fun e w' => ((¬ r.Ok ∧ e = .returned (.slice none 0 0)) ∨ (r.Ok ∧ ∃ g, e = .returned (.slice (some ⟨g, 0, none⟩) r.instrs.length r.instrs.length) ∧ IsRows w' w'.heap.size r.lives (.slice (some ⟨g, 0, none⟩) r.instrs.length r.instrs.length))) ∧ Below W.heap.size W w') := Lib.hid (fun W hW => by
    have := c_Liveness r _ IA ic none 0 W _ G (HRC.out.below hW (Nat.le_refl _)) hW.size (HE2.out.below hW hG2) (HR2.out.below hW hG2) (Nat.le_trans hG2 hW.size)
    rw [hml] at this
    exact this)
  have HVA : Hid (∀ W : World, Below w2.heap.size w2 W → Calls Tryz.prog 10 #[.agg #[.int .i64 r.params, .slice CA 7 cc, .slice IA r.instrs.length ic, .slice none r.edits 0]] W fun e w' => e = .returned (.int .i64 r.validate) ∧ Below W.heap.size W w') := Lib.hid (fun W hW => by
    have := c_RefVal r _ IA ic none 0 W _ (HRC.out.below hW (Nat.le_refl _)) hW.size
    rw [hml] at this
    exact this)
  have HSU : Hid (∀ (at_ : Int) (W : World), Below w2.heap.size w2 W → Calls Tryz.prog 15 #[.agg #[.int .i64 r.params, .slice CA 7 cc, .slice IA r.instrs.length ic, .slice none r.edits 0], .int .i64 at_] W fun e w' => ∃ v, e = .returned v ∧ RowRes W.heap.size w' (r.next at_) v ∧ Below W.heap.size W w') := Lib.hid (fun at_ W hW => by
    have := c_Successors r _ IA ic none 0 at_ W _ G (HRC.out.below hW (Nat.le_refl _)) hW.size (HE2.out.below hW hG2) (HR2.out.below hW hG2) (Nat.le_trans hG2 hW.size)
    rw [hml] at this
    exact this)
  have HSN : Hid (∀ W : World, Below w2.heap.size w2 W → Calls Tryz.prog 11 #[] W fun e w' => e = .returned (.bool true) ∧ Below W.heap.size W w') := Lib.hid (fun W hW => c_sane W G (HE2.out.below hW hG2) (HR2.out.below hW hG2) (Nat.le_trans hG2 hW.size))
  have HIN := Lib.hid (fun (W : World) (hW : Below w2.heap.size w2 W) (k : Nat) (hk : k < r.instrs.length) => HRC.out.at_ (w' := W) (fun b hb => hW.block b (by omega)) hk)
  have HDEF := Lib.hid (fun (W : World) (hW : Below w2.heap.size w2 W) (op dst imm : Int) (u2 u3 u5 u6 u7 u8 u9 u10 u11 u12 u13 u14 : Value) => c_Def op dst imm u2 u3 u5 u6 u7 u8 u9 u10 u11 u12 u13 u14 W G (HE2.out.below hW hG2) (Nat.le_trans hG2 hW.size))
  have HUSE := Lib.hid (fun (W : World) (hW : Below w2.heap.size w2 W) (x : Ins) (A : Option Addr) (c : Nat) (TA : Option Addr) (tc : Nat) (EA : Option Addr) (ec : Nat) (hx : IsInts W w2.heap.size x.args (.slice A x.args.length c)) (ha : x.args.length ≤ 2 ^ 39) => c_Uses x A c TA tc EA ec W _ G hx hW.size ha (HE2.out.below hW hG2) (Nat.le_trans hG2 hW.size))
  have HML := Lib.hid hml
  clear hml
  go_wp2_with fail
  generalize w2.alloc _ = W2 at *
  refine (HLV.out W2 HBX.out.2.1).mono ?_
  rintro e w3 ⟨hl, hb3⟩
  have HB3 := Lib.hid (HBX.out.step hb3)
  clear hb3 HBX
  have kinv := Rc.val_ok_iff (r := r)
  rcases hl with ⟨hno, rfl⟩ | ⟨hok, g, rfl, hrows⟩
  · have kv : (r.validate != 0) = true := by
      have : ¬ r.validate = 0 := fun h => hno (kinv.1 h)
      simpa using this
    clear kinv hno
    obtain ⟨c0, c1, c2, c3⟩ := HB3.out.1
    go_wp2_with fail
    refine (HVA.out w3 HB3.out.2.1).mono ?_
    rintro e w4 ⟨rfl, hb4⟩
    have HB4 := Lib.hid (HB3.out.step hb4)
    clear hb4 HB3 c0 c1 c2 c3
    go_wp2_with fail
    refine (HSN.out w4 HB4.out.2.1).mono ?_
    rintro e w5 ⟨rfl, hb5⟩
    go_wp2
    go_ret
    exact ⟨rfl, HBW.out.trans ((HB4.out.step hb5).2.1.mono hsw)⟩
  · have kv0 := kinv.2 hok
    have HOK := Lib.hid hok
    have HRW3 := Lib.hid hrows
    clear kinv hrows hok
    rw [kv0] at HVA
    clear kv0
    obtain ⟨c0, c1, c2, c3⟩ := HB3.out.1
    go_wp2_with fail
    refine (HVA.out w3 HB3.out.2.1).mono ?_
    rintro e w4 ⟨rfl, hb4⟩
    have HB4 := Lib.hid (HB3.out.step hb4)
    have HRW := Lib.hid ((HRW3.out.below hb4 (Nat.le_refl _)))
    have hs4 := hb4.size
    have hs44 : w3.heap.size ≤ w4.heap.size := hs4
    clear hb4 HB3 c0 c1 c2 c3 HRW3
    obtain ⟨c0, c1, c2, c3⟩ := HB4.out.1
    have HIB := Lib.hid HOK.out.2.2.2.2.2.2.2.1
    have HSO := Lib.hid (SuccOk.of HIB.out HOK.out.2.2.2.2.2.2.2.2.1)
    have HSL := Lib.hid (fun (i : Nat) (hi : i < r.instrs.length) => (HSO.out i hi).2)
    have HAL := Lib.hid (fun (x : Ins) (hx : x ∈ r.instrs) => (insB_args (HIB.out x hx)).2)
    have HNX : Hid (∀ i : Nat, i < r.instrs.length → r.next i = (r.succ i).map fun (q : Nat) => (q : Int)) := Lib.hid (fun i hi => by
      unfold Rc.next
      rw [if_pos ⟨by omega, by omega, Rc.val_ok_iff.2 HOK.out⟩, Int.toNat_natCast])
    have HLE := Lib.hid r.succ_le
    generalize hn : r.instrs.length = n at *
    have HN := Lib.hid hn
    clear hn
    go_wp2
    clear c0 c1 c2 c3
    go_loopw [5] (fun s wr => ∃ i : Nat, i ≤ n ∧ s = .int .i64 i ∧ Hid (Bx w2 (.int .i64 r.params) (.slice CA 7 cc) (.slice IA n ic) (.slice none r.edits 0) wr) ∧ Hid (Below w4.heap.size w4 wr)) (fun s _ => n - (intOf s).toNat)
    case atStart => exact ⟨0, by omega, rfl, HB4, Lib.hid (Below.refl _ _)⟩
    case round =>
      obtain ⟨i, hi, rfl, HB, HBF⟩ := hrel
      obtain ⟨c0, c1, c2, c3⟩ := HB.out.1
      have hi0 : (0 : Int) ≤ (i : Int) := by omega
      by_cases hin : i < n
      · have hi1 : (i : Int) < (n : Int) := by omega
        obtain ⟨gi, oi, x, hx, rfl, hgi, hI⟩ := HIN.out wr HB.out.2.1 i hin
        obtain ⟨X1, e1, TX, tx, EX, ex, hcs, hia, _⟩ := hI
        have HX := Lib.hid hx
        have HXM : Hid (x ∈ r.instrs) := Lib.hid (List.mem_of_getElem? hx)
        clear hx hia
        have hkc := hcs
        obtain ⟨h0, h1, h2, h3, h4, h5, h6, h7, h8, h9, h10, h11, h12, h13, h14⟩ := hcs
        go_wp2_with fail
        refine (HDEF.out wr HB.out.2.1 _ _ _ _ _ _ _ _ _ _ _ _ _ _ _).mono ?_
        rintro e w5 ⟨rfl, hb5⟩
        have HB5 := Lib.hid (HB.out.step hb5)
        have HBF5 := Lib.hid (below_step HBF.out hb5)
        clear h0 h1 h2 h3 h4 h5 h6 h7 h8 h9 h10 h11 h12 h13 h14 c0 c1 c2 c3 hb5 HB HBF hkc
        generalize hdv : (if oD x.op = true then x.dst else 0) = dv
        have HDV : Hid (oD x.op = true → x.dst = dv) := Lib.hid (fun h => by rw [← hdv, if_pos h])
        clear hdv
        generalize hod : oD x.op = od at *
        have HOD := Lib.hid hod
        clear hod
        obtain ⟨gi', oi', x', hx', hga, hgi', hI⟩ := HIN.out w5 HB5.out.2.1 i hin
        simp only [Option.some.injEq, Addr.mk.injEq, and_true] at hga
        obtain ⟨rfl, rfl⟩ := hga
        obtain rfl : x = x' := by
          rw [HX.out] at hx'
          exact Option.some.inj hx'
        obtain ⟨X2, e2, TX2, tx2, EX2, ex2, hcs, hia, _⟩ := hI
        have HIA := Lib.hid hia
        obtain ⟨h0, h1, h2, h3, h4, h5, h6, h7, h8, h9, h10, h11, h12, h13, h14⟩ := hcs
        obtain ⟨c0, c1, c2, c3⟩ := HB5.out.1
        have HUC := Lib.hid (fun (W : World) (hW : Below w5.heap.size w5 W) => HUSE.out W (below_step HB5.out.2.1 hW) x X2 e2 TX2 tx2 EX2 ex2 (HIA.out.below (hW.mono HB5.out.2.1.size) (Nat.le_refl _)) (by have := HAL.out x HXM.out; omega))
        have HSC := Lib.hid (fun (W : World) (hW : Below w5.heap.size w5 W) => HSU.out i W (below_step HB5.out.2.1 hW))
        rw [HNX.out i hin] at HSC
        have HSK : Hid (∀ W' : World, Below w5.heap.size w5 W' → Below w5.heap.size w5 W' ∧ (W'.cell? ⟨w2.heap.size, 0, none⟩ = some (.int .i64 r.params) ∧ W'.cell? ⟨w2.heap.size, 1, none⟩ = some (.slice CA 7 cc) ∧ W'.cell? ⟨w2.heap.size, 2, none⟩ = some (.slice (some ⟨gi, oi, none⟩) n ic) ∧ W'.cell? ⟨w2.heap.size, 3, none⟩ = some (.slice none r.edits 0)) ∧ (W'.cell? ⟨gi, oi + i * 15, none⟩ = some (.int .i64 x.op) ∧ W'.cell? ⟨gi, oi + i * 15 + 1, none⟩ = some (.int .i64 x.dst) ∧ W'.cell? ⟨gi, oi + i * 15 + 2, none⟩ = some (.int .i64 x.a) ∧ W'.cell? ⟨gi, oi + i * 15 + 3, none⟩ = some (.int .i64 x.b) ∧ W'.cell? ⟨gi, oi + i * 15 + 4, none⟩ = some (.int .i64 x.imm) ∧ W'.cell? ⟨gi, oi + i * 15 + 5, none⟩ = some (.string x.name) ∧ W'.cell? ⟨gi, oi + i * 15 + 6, none⟩ = some (.slice X2 x.args.length e2) ∧ W'.cell? ⟨gi, oi + i * 15 + 7, none⟩ = some (.int .i64 x.ty.kind) ∧ W'.cell? ⟨gi, oi + i * 15 + 8, none⟩ = some (.string x.ty.name) ∧ W'.cell? ⟨gi, oi + i * 15 + 9, none⟩ = some (.int .i64 x.ty.index) ∧ W'.cell? ⟨gi, oi + i * 15 + 10, none⟩ = some (.slice TX2 x.ty.args.length tx2) ∧ W'.cell? ⟨gi, oi + i * 15 + 11, none⟩ = some (.int .i64 x.ck) ∧ W'.cell? ⟨gi, oi + i * 15 + 12, none⟩ = some (.int .i64 x.ci) ∧ W'.cell? ⟨gi, oi + i * 15 + 13, none⟩ = some (.string x.cs) ∧ W'.cell? ⟨gi, oi + i * 15 + 14, none⟩ = some (.slice EX2 x.ce ex2))) := Lib.hid (fun W' hW => by
          have hl2 : w2.heap.size < w5.heap.size := HB5.out.2.2
          have hk : ∀ (b o : Nat) (v : Value), b < w5.heap.size → w5.cell? ⟨b, o, none⟩ = some v → W'.cell? ⟨b, o, none⟩ = some v := fun b o v hb h => (hW.cell (p := ⟨b, o, none⟩) hb).trans h
          have hg2 : gi < w5.heap.size := by omega
          exact ⟨hW, ⟨hk _ _ _ hl2 c0, hk _ _ _ hl2 c1, hk _ _ _ hl2 c2, hk _ _ _ hl2 c3⟩, hk _ _ _ hg2 h0, hk _ _ _ hg2 h1, hk _ _ _ hg2 h2, hk _ _ _ hg2 h3, hk _ _ _ hg2 h4, hk _ _ _ hg2 h5, hk _ _ _ hg2 h6, hk _ _ _ hg2 h7, hk _ _ _ hg2 h8, hk _ _ _ hg2 h9, hk _ _ _ hg2 h10, hk _ _ _ hg2 h11, hk _ _ _ hg2 h12, hk _ _ _ hg2 h13, hk _ _ _ hg2 h14⟩)
        clear hx' hia
        go_upto_region 11 with fail
        clear h0 h1 h2 h3 h4 h5 h6 h7 h8 h9 h10 h11 h12 h13 h14 c0 c1 c2 c3
        go_region_held3 (fun W' : World => Below w5.heap.size w5 W' ∧ (W'.cell? ⟨w2.heap.size, 0, none⟩ = some (.int .i64 r.params) ∧ W'.cell? ⟨w2.heap.size, 1, none⟩ = some (.slice CA 7 cc) ∧ W'.cell? ⟨w2.heap.size, 2, none⟩ = some (.slice (some ⟨gi, oi, none⟩) n ic) ∧ W'.cell? ⟨w2.heap.size, 3, none⟩ = some (.slice none r.edits 0)) ∧ (W'.cell? ⟨gi, oi + i * 15, none⟩ = some (.int .i64 x.op) ∧ W'.cell? ⟨gi, oi + i * 15 + 1, none⟩ = some (.int .i64 x.dst) ∧ W'.cell? ⟨gi, oi + i * 15 + 2, none⟩ = some (.int .i64 x.a) ∧ W'.cell? ⟨gi, oi + i * 15 + 3, none⟩ = some (.int .i64 x.b) ∧ W'.cell? ⟨gi, oi + i * 15 + 4, none⟩ = some (.int .i64 x.imm) ∧ W'.cell? ⟨gi, oi + i * 15 + 5, none⟩ = some (.string x.name) ∧ W'.cell? ⟨gi, oi + i * 15 + 6, none⟩ = some (.slice X2 x.args.length e2) ∧ W'.cell? ⟨gi, oi + i * 15 + 7, none⟩ = some (.int .i64 x.ty.kind) ∧ W'.cell? ⟨gi, oi + i * 15 + 8, none⟩ = some (.string x.ty.name) ∧ W'.cell? ⟨gi, oi + i * 15 + 9, none⟩ = some (.int .i64 x.ty.index) ∧ W'.cell? ⟨gi, oi + i * 15 + 10, none⟩ = some (.slice TX2 x.ty.args.length tx2) ∧ W'.cell? ⟨gi, oi + i * 15 + 11, none⟩ = some (.int .i64 x.ck) ∧ W'.cell? ⟨gi, oi + i * 15 + 12, none⟩ = some (.int .i64 x.ci) ∧ W'.cell? ⟨gi, oi + i * 15 + 13, none⟩ = some (.string x.cs) ∧ W'.cell? ⟨gi, oi + i * 15 + 14, none⟩ = some (.slice EX2 x.ce ex2)))
          (first | exact HSK.out _ (below_drew _) | exact HSK.out _ (below_step (And.left (by assumption)) hbn))
          (first
          | (go_at_call 14; refine (HUC.out _ ?hbU).mono ?_; (case hbU => exact And.left (by assumption)); rintro e wn ⟨v8, rfl, hown8, hbn⟩
             have HU8 := Lib.hid (IsInts.own hown8)
             clear hown8)
          | (go_at_call 15; refine (HSC.out _ ?hbS).mono ?_; (case hbS => exact And.left (by assumption)); rintro e wl ⟨v9, rfl, hres9, hbn⟩
             have HU9 := Lib.hid (HU8.out.below hbn (Nat.le_refl _))
             have HU8n := Lib.hid hbn.size
             have HS9 := Lib.hid (hres9.ints (by have := HLE.out i; simp; omega))
             clear hres9))
        have hbl : Below w5.heap.size w5 wl := And.left (by assumption)
        have HB9 := Lib.hid (HB5.out.step hbl)
        have hsl := hbl.size
        have HBF9 := Lib.hid (below_step HBF5.out hbl)
        have HRW9 : Hid (IsRows wl w3.heap.size r.lives (.slice (some ⟨g, 0, none⟩) n n)) := Lib.hid (HRW.out.below HBF9.out hs44)
        have hs49 : w3.heap.size ≤ wl.heap.size := Nat.le_trans hs44 HBF9.out.size
        obtain ⟨A8, c8, hv8, _⟩ := id HU9.out
        obtain ⟨A9, c9, hv9, _⟩ := id HS9.out
        subst hv8
        rw [List.length_map] at hv9
        subst hv9
        have HUL := Lib.hid (Nat.le_trans (uses_len x) (Nat.le_trans (regs_len x) (by have := HAL.out x HXM.out; omega : 2 + x.args.length ≤ 8)))
        have hjl2 := HLE.out i
        generalize hjl : (r.succ i).length = jl at *
        have HJL := Lib.hid hjl
        clear hjl hbl
        have HSQ := Lib.hid (fun (q : Nat) (hq : q < jl) (W : World) (hW : Below wl.heap.size wl W) => (show ∃ (g9 o9 s : Nat), A9 = some ⟨g9, o9, none⟩ ∧ s < n ∧ (r.succ i).take (q + 1) = (r.succ i).take q ++ [s] ∧ W.cell? ⟨g9, o9 + q, none⟩ = some (.int .i64 (s : Int)) by
          have hq' : q < (r.succ i).length := by rw [HJL.out]; exact hq
          obtain ⟨g9, o9, hq9, hA9, _, hcell⟩ := (HS9.out.below hW (Nat.le_refl _)).at_ (w' := W) (fun _ _ => rfl) hq
          rw [List.getElem_map] at hcell
          exact ⟨g9, o9, _, hA9, HSL.out i hin _ (List.getElem_mem hq'), List.take_succ_eq_append_getElem hq', hcell⟩))
        go_wp2
        obtain ⟨wp, rfl⟩ : ∃ wp : World, wp = wr := ⟨_, rfl⟩
        go_loopw [10] (fun s wr => ∃ q : Nat, q ≤ jl ∧ s = .int .i64 q ∧ Hid (Below wl.heap.size wl wr)) (fun s _ => jl - (intOf s).toNat)
        case atStart => exact ⟨0, by omega, rfl, Lib.hid (Below.refl _ _)⟩
        case round =>
          obtain ⟨q, hq, rfl, HBL⟩ := hrel
          have hq0 : (0 : Int) ≤ (q : Int) := by omega
          by_cases hqj : q < jl
          · have hq1 : (q : Int) < (jl : Int) := by omega
            obtain ⟨g9, o9, s, rfl, hsn, _, hcell⟩ := HSQ.out q hqj wr HBL.out
            have hs0 : (0 : Int) ≤ (s : Int) := by omega
            have hs1 : (s : Int) < (n : Int) := by omega
            go_wp2
            go_roundw
            case rel => exact ⟨q + 1, by omega, by go_num, HBL⟩
            case measure => simp [intOf]; omega
          · obtain rfl : jl = q := by omega
            go_wp2
            obtain ⟨wq, rfl⟩ : ∃ wq : World, wq = wr := ⟨_, rfl⟩
            go_loopw [11] (fun s wr => ∃ k : Nat, k ≤ 7 ∧ s = .int .i64 k ∧ Hid (Below wl.heap.size wl wr)) (fun s _ => 7 - (intOf s).toNat)
            case atStart => exact ⟨0, by omega, rfl, HBL⟩
            case round =>
              clear HBL
              obtain ⟨k, hk, rfl, HBL⟩ := hrel
              have hk0 : (0 : Int) ≤ (k : Int) := by omega
              obtain ⟨c0, c1, c2, c3⟩ := (HB9.out.step HBL.out).1
              by_cases hk7 : k < 7
              · have hk1 : (k : Int) < 7 := by omega
                have HAU := Lib.hid (c_has x.uses _ k wr _ (HU9.out.below HBL.out HU8n.out) (Nat.le_trans HUL.out (by omega)))
                have HEQ := Lib.hid (live_eq HX.out (n := k) (by rw [HML.out]; exact hk7))
                rw [HOD.out] at HEQ
                go_wp2_with fail
                refine HAU.out.mono ?_
                rintro e wz ⟨rfl, rfl⟩
                clear HAU c0 c1 c2 c3
                generalize decide ((k : Int) ∈ x.uses) = bu at *
                go_wp2
                go_loopw [12, 13] (fun s12 s13 wr => ∃ q : Nat, q ≤ jl ∧ s13 = .int .i64 q ∧ s12 = .bool (bu || ((r.succ i).take q).any fun a => decide ((k : Int) ∈ r.live a)) ∧ Hid (q = 0 ∨ ¬ (od = true ∧ dv = (k : Int))) ∧ Hid (Below wl.heap.size wl wr)) (fun _ s13 _ => jl - (intOf s13).toNat)
                case atStart => exact ⟨0, by omega, rfl, by simp, Lib.hid (.inl rfl), HBL⟩
                case round =>
                  clear HBL
                  obtain ⟨q, hq, rfl, rfl, HQ0, HBL⟩ := hrel
                  have hq0 : (0 : Int) ≤ (q : Int) := by omega
                  generalize hbq : (bu || ((r.succ i).take q).any fun a => decide ((k : Int) ∈ r.live a)) = bq
                  have HBQ := Lib.hid hbq
                  clear hbq
                  by_cases hqj : q < jl
                  · have hq1 : (q : Int) < (jl : Int) := by omega
                    by_cases hp : od = true ∧ dv = (k : Int)
                    · have k1 : (!od) = false := by simp [hp.1]
                      have k2 : (dv != (k : Int)) = false := by simp [hp.2]
                      have HWQ : Hid (bq = decide ((k : Int) ∈ r.live i)) := Lib.hid (by
                        rw [HEQ.out, ← HBQ.out]
                        rcases HQ0.out with h | h
                        · subst h
                          rw [hp.1]
                          simp [HDV.out hp.1, hp.2]
                        · exact absurd hp h)
                      clear HBQ HQ0 hp
                      obtain ⟨lr, ur, hlr, hcr, hir⟩ := rows_at0 (HRW9.out.below HBL.out hs49) hin
                      obtain rfl := lives_get hlr
                      have HIR := Lib.hid (c_has (r.live i) ur k wr _ hir (Nat.le_trans (live_len r i) (by rw [HML.out]; omega)))
                      clear hlr hir
                      obtain ⟨c0, c1, c2, c3⟩ := (HB9.out.step HBL.out).1
                      go_wp2_with fail
                      refine HIR.out.mono ?_
                      rintro e wz ⟨rfl, rfl⟩
                      rw [← HWQ.out]
                      clear HIR hcr
                      go_wp2
                      go_roundw
                      case rel => exact ⟨k + 1, by omega, by go_num, HBL⟩
                      case measure => simp [intOf]; omega
                    · obtain ⟨g9, o9, s, rfl, hsn, htk, hcell⟩ := HSQ.out q hqj wr HBL.out
                      have hs0 : (0 : Int) ≤ (s : Int) := by omega
                      have hs1 : (s : Int) < (n : Int) := by omega
                      have HNQ : Hid ((bu || ((r.succ i).take (q + 1)).any fun a => decide ((k : Int) ∈ r.live a)) = (bq || decide ((k : Int) ∈ r.live s))) := Lib.hid (by
                        rw [htk, List.any_append, ← Bool.or_assoc, HBQ.out]
                        simp)
                      obtain ⟨lr, ur, hlr, hcs2, hir⟩ := rows_at0 (HRW9.out.below HBL.out hs49) hsn
                      obtain rfl := lives_get hlr
                      have HAS := Lib.hid (c_has (r.live s) ur k wr _ hir (Nat.le_trans (live_len r s) (by rw [HML.out]; omega)))
                      generalize decide ((k : Int) ∈ r.live s) = bs at *
                      clear hlr hir htk HBQ HQ0
                      by_cases hod2 : od = true
                      · have k1 : (!od) = false := by simp [hod2]
                        have k2 : (dv != (k : Int)) = true := by
                          have : ¬ dv = (k : Int) := fun e => hp ⟨hod2, e⟩
                          simpa using this
                        clear hod2
                        cases bq
                        · go_wp2_with fail
                          refine HAS.out.mono ?_
                          rintro e wz ⟨rfl, rfl⟩
                          clear HAS hcs2
                          go_wp2
                          go_roundw
                          case rel => exact ⟨q + 1, by omega, by go_num, by rw [HNQ.out]; simp, Lib.hid (.inr hp), HBL⟩
                          case measure => simp [intOf]; omega
                        · clear HAS hcs2
                          go_wp2
                          go_roundw
                          case rel => exact ⟨q + 1, by omega, by go_num, by rw [HNQ.out]; simp, Lib.hid (.inr hp), HBL⟩
                          case measure => simp [intOf]; omega
                      · have k1 : (!od) = true := by simpa using hod2
                        clear hod2
                        cases bq
                        · go_wp2_with fail
                          refine HAS.out.mono ?_
                          rintro e wz ⟨rfl, rfl⟩
                          clear HAS hcs2
                          go_wp2
                          go_roundw
                          case rel => exact ⟨q + 1, by omega, by go_num, by rw [HNQ.out]; simp, Lib.hid (.inr hp), HBL⟩
                          case measure => simp [intOf]; omega
                        · clear HAS hcs2
                          go_wp2
                          go_roundw
                          case rel => exact ⟨q + 1, by omega, by go_num, by rw [HNQ.out]; simp, Lib.hid (.inr hp), HBL⟩
                          case measure => simp [intOf]; omega
                  · obtain rfl : jl = q := by omega
                    have HWQ : Hid (bq = decide ((k : Int) ∈ r.live i)) := Lib.hid (by
                      rw [HEQ.out, ← HBQ.out, List.take_of_length_le (by rw [HJL.out]; exact Nat.le_refl _)]
                      by_cases hp : od = true ∧ dv = (k : Int)
                      · rcases HQ0.out with h | h
                        · have : r.succ i = [] := List.eq_nil_of_length_eq_zero (by rw [HJL.out]; exact h)
                          rw [this]
                          simp
                        · exact absurd hp h
                      · have : (!(od && decide (x.dst = (k : Int)))) = true := by
                          cases od
                          · rfl
                          · have h1 := HDV.out rfl
                            have : ¬ x.dst = (k : Int) := fun e => hp ⟨rfl, by rw [← h1]; exact e⟩
                            simp [this]
                        rw [this, Bool.true_and])
                    clear HBQ HQ0
                    obtain ⟨lr, ur, hlr, hcr, hir⟩ := rows_at0 (HRW9.out.below HBL.out hs49) hin
                    obtain rfl := lives_get hlr
                    have HIR := Lib.hid (c_has (r.live i) ur k wr _ hir (Nat.le_trans (live_len r i) (by rw [HML.out]; omega)))
                    clear hlr hir
                    obtain ⟨c0, c1, c2, c3⟩ := (HB9.out.step HBL.out).1
                    go_wp2_with fail
                    refine HIR.out.mono ?_
                    rintro e wz ⟨rfl, rfl⟩
                    rw [← HWQ.out]
                    clear HIR hcr
                    go_wp2
                    go_roundw
                    case rel => exact ⟨k + 1, by omega, by go_num, HBL⟩
                    case measure => simp [intOf]; omega
              · obtain rfl : k = 7 := by omega
                have HBr := Lib.hid (HB9.out.step HBL.out)
                have HBFr := Lib.hid (below_step HBF9.out HBL.out)
                go_wp2
                go_roundw
                case rel => exact ⟨i + 1, by omega, by go_num, HBr, HBFr⟩
                case measure => simp [intOf]; omega
      · obtain rfl : n = i := by omega
        have hbz := HB.out.2.1
        go_wp2_with fail
        refine (HSN.out wr hbz).mono ?_
        rintro e w5 ⟨rfl, hb5⟩
        have HBZ := Lib.hid (HBW.out.trans ((below_step hbz hb5).mono hsw))
        clear hb5
        go_wp2
        go_ret
        exact ⟨rfl, HBZ.out⟩
end Go.Proofs.YtdjldmpfginkdaaGreatDoor
