/- Contracts of telref1.substitute, instantiate, Substitute, Instantiate: what they compute; the result may share memory with what is put in. -/
import Derived.Test.YtdbflfakocaapaaDoorBoxP
import Derived.Test.YtdbflfakocaapaaDoorSub2
import Derived.Test.YtdbflfakocaapaaDoorOrd
namespace Go.Proofs.YtdbflfakocaapaaDoor
open Go.RowKit
attribute [local go_sem ↓] Go.wp_at_zero Go.wp_at_succ

/-- The term T has come back; its memory lies in the blocks P or in new ones. -/
def SubR (T : Ty) (P : Nat → Prop) (w : World) (e : Ending) (w' : World) : Prop := ∃ A c, e = .returned (.agg #[.int .i64 T.kind, .string T.name, .int .i64 T.index, .slice A T.args.length c]) ∧ IsTyP w' (fun b => P b ∨ (w.heap.size ≤ b ∧ b < w'.heap.size)) T (.agg #[.int .i64 T.kind, .string T.name, .int .i64 T.index, .slice A T.args.length c]) ∧ Below w.heap.size w w'
theorem sub_fin {T : Ty} {P Q : Nat → Prop} {w W : World} {rb : Nat} {k ix : Int} {nm : ByteArray} {ts : List Ty} {A : Option Addr} {n c : Nat} {x0 x1 x2 x3 : Value} (hrb : w.heap.size ≤ rb) (hP : ∀ b, P b → b < w.heap.size) (hb : Below w.heap.size w W) (hT : T = ⟨k, nm, ix, ts⟩) (hn : ts.length = n) (hl : IsTylP W Q ts (.slice A n c)) (hQ : ∀ b, Q b → P b ∨ (rb < b ∧ b < W.heap.size)) (hr : W.heap[rb]? = some (.cells #[x0, x1, x2, x3] 25 (0, 0))) :
    ∀ W' : World, W' = ((((W.setCell ⟨rb, 0, none⟩ (.int .i64 k)).setCell ⟨rb, 1, none⟩ (.string nm)).setCell ⟨rb, 2, none⟩ (.int .i64 ix)).setCell ⟨rb, 3, none⟩ (.slice A n c)) →
    Hid (SubR T P w (.returned (.agg #[.int .i64 k, .string nm, .int .i64 ix, .slice A n c])) W') ∧ (W'.cell? ⟨rb, 0, none⟩ = some (.int .i64 k) ∧ W'.cell? ⟨rb, 1, none⟩ = some (.string nm) ∧ W'.cell? ⟨rb, 2, none⟩ = some (.int .i64 ix) ∧ W'.cell? ⟨rb, 3, none⟩ = some (.slice A n c)) := by
  rintro W' rfl
  subst hn
  subst hT
  obtain ⟨s1, s2, s3⟩ := set4 (.int .i64 k) (.string nm) (.int .i64 ix) (.slice A ts.length c) hr
  refine ⟨Lib.hid ⟨A, c, rfl, IsTyP.mk_ (hl.keep (fun b hq => s2 b ?_) (fun b hq => ?_)), ⟨hb.os, hb.tape, hb.output, by rw [s3]; exact hb.size, fun j hj => (s2 j (by omega)).trans (hb.block j hj)⟩⟩, (box_frozen s1).1⟩
  · rcases hQ b hq with h | h
    · have := hP b h; omega
    · omega
  · rcases hQ b hq with h | h
    · exact .inl h
    · exact .inr ⟨by omega, by rw [s3]; exact h.2⟩
/-- Four boxes: the term, what is put in, the result, the variable that is built. -/
theorem four_boxes (P : Nat → Prop) (w : World) (k ix : Int) (nm : ByteArray) (A : Option Addr) (n c : Nat) (u0 u1 u2 u3 : Value) (k' ix' : Int) (nm' : ByteArray) : ∀ W : World, W = ((((w.alloc (.cells #[.int .i64 k, .string nm, .int .i64 ix, .slice A n c] 25)).alloc (.cells #[u0, u1, u2, u3] 25)).alloc (.cells #[.int .i64 0, .string ⟨#[]⟩, .int .i64 0, .slice none 0 0] 25)).alloc (.cells #[.int .i64 k', .string nm', .int .i64 ix', .slice none 0 0] 25)) →
    ∃ wb : World, Below w.heap.size w wb ∧ wb.heap.size = w.heap.size + 1 + 1 + 1 ∧ wb.heap[w.heap.size]? = some (.cells #[.int .i64 k, .string nm, .int .i64 ix, .slice A n c] 25 (0, 0)) ∧ wb.heap[w.heap.size + 1]? = some (.cells #[u0, u1, u2, u3] 25 (0, 0)) ∧ wb.heap[w.heap.size + 1 + 1]? = some (.cells #[.int .i64 0, .string ⟨#[]⟩, .int .i64 0, .slice none 0 0] 25 (0, 0)) ∧ BP P (w.heap.size + 1 + 1 + 1) wb W k' nm' ix' (.slice none 0 0) [] := by
  rintro W rfl
  have e1 := blk_new w (.cells #[.int .i64 k, .string nm, .int .i64 ix, .slice A n c] 25)
  have e2 := blk_new (w.alloc (.cells #[.int .i64 k, .string nm, .int .i64 ix, .slice A n c] 25)) (.cells #[u0, u1, u2, u3] 25)
  have e3 := blk_new ((w.alloc (.cells #[.int .i64 k, .string nm, .int .i64 ix, .slice A n c] 25)).alloc (.cells #[u0, u1, u2, u3] 25)) (.cells #[.int .i64 0, .string ⟨#[]⟩, .int .i64 0, .slice none 0 0] 25)
  have e4 := blk_new (((w.alloc (.cells #[.int .i64 k, .string nm, .int .i64 ix, .slice A n c] 25)).alloc (.cells #[u0, u1, u2, u3] 25)).alloc (.cells #[.int .i64 0, .string ⟨#[]⟩, .int .i64 0, .slice none 0 0] 25)) (.cells #[.int .i64 k', .string nm', .int .i64 ix', .slice none 0 0] 25)
  refine ⟨((w.alloc (.cells #[.int .i64 k, .string nm, .int .i64 ix, .slice A n c] 25)).alloc (.cells #[u0, u1, u2, u3] 25)).alloc (.cells #[.int .i64 0, .string ⟨#[]⟩, .int .i64 0, .slice none 0 0] 25), below_step (below_step (below_new _ _) (below_new _ _)) (below_new _ _), by simp, blk_old (blk_old e1), blk_old ?_, ?_, BP.start ?_ (below_new _ _)⟩
  · simpa using e2
  · simpa using e3
  · simpa using e4

theorem IsTyP.sl {w : World} {P : Nat → Prop} {t : Ty} {x0 x1 x2 x3 : Value} (h : IsTyP w P t (.agg #[x0, x1, x2, x3])) : IsTylP w P t.args x3 := by
  obtain ⟨A, c, e, hl⟩ := h.args_
  simp only [Value.agg.injEq, Array.mk.injEq, List.cons.injEq, and_true] at e
  obtain ⟨_, _, _, rfl⟩ := e
  exact hl
theorem IsTylP.below {w w' : World} {P : Nat → Prop} {C : Nat} {ts : List Ty} {v : Value} (h : IsTylP w P ts v) (hb : Below C w w') (hP : ∀ b, P b → b < C) : IsTylP w' P ts v :=
  h.keep (fun b hp => hb.block b (hP b hp)) fun _ h => h
theorem IsTyl.p {w : World} {L B : Nat} {P : Nat → Prop} {ts : List Ty} {v : Value} (h : IsTyl w L B ts v) (hP : ∀ b, (L ≤ b ∧ b < B) → P b) : IsTylP w P ts v := by
  obtain ⟨A, c, hv, hc, h⟩ := h
  refine ⟨A, c, hv, hc, ?_⟩
  rcases h with h | ⟨g, o, hA, hl, hb, h⟩
  · exact .inl h
  · exact .inr ⟨g, o, hA, hP g ⟨hl, hb⟩, IsTysP.keep (fun _ _ => rfl) hP ⟨hl, hb⟩ h.p⟩

theorem below_setC {w W : World} {b i : Nat} {u : Value} (h : Below w.heap.size w W) (hb : w.heap.size ≤ b) : Below w.heap.size w (W.setCell ⟨b, i, none⟩ u) :=
  ⟨h.os, h.tape, h.output, by simp [World.setCell]; exact h.size, fun k hk => (Below.heap_setCell _ _ _ _ (by show k ≠ b; omega)).trans (h.block k hk)⟩

set_option maxRecDepth 20000 in
set_option maxHeartbeats 8000000 in
theorem c_rsub (b : Ty) (Ab : Option Addr) (cb : Nat) (N : Nat) : ∀ (t : Ty) (d : Int) (P : Nat → Prop) (w : World) (v : Value), t.size ≤ N → IsTyP w P t v → IsTyP w P b (.agg #[.int .i64 b.kind, .string b.name, .int .i64 b.index, .slice Ab b.args.length cb]) → (∀ b, P b → b < w.heap.size) → t.nar → t.ok → 0 ≤ d → d + t.depth ≤ 2 ^ 61 →
    Calls Tryd.prog 67 #[v, .agg #[.int .i64 b.kind, .string b.name, .int .i64 b.index, .slice Ab b.args.length cb], .int .i64 d] w (SubR (t.repl (fSub b) d) P w) := by
  induction N with
  | zero => intro t d P w v h; have := t.size_pos; omega
  | succ N ih =>
  intro t d P w v hN hty hby hP hnar hok hd0 hd1
  obtain ⟨A0, c0, rfl, hl⟩ := hty.args_
  have HV := Lib.hid hl
  rw [Ty.ok_eq] at hok
  rw [Ty.nar_eq] at hnar
  rw [Ty.size_eq] at hN
  rw [Ty.depth_eq] at hd1
  obtain ⟨hk, hix, hoks⟩ := hok
  obtain ⟨hn40, hnars⟩ := hnar
  have HOKS := Lib.hid hoks
  have HNAR := Lib.hid hnars
  have HP := Lib.hid hP
  have HBY := Lib.hid hby
  have IH := Lib.hid ih
  unfold inI at hix
  clear ih hty hl hk hoks hnars hP hby
  have HR1 := Lib.hid (fun (hk : t.kind = 5) (h : t.index = d) => Ty.repl_var (f := fSub b) (t' := b) hk (by unfold fSub; rw [if_pos h]))
  have HR2 := Lib.hid (fun (hk : t.kind = 5) (h : d < t.index) => Ty.repl_idx (f := fSub b) (i := t.index - 1) hk (by unfold fSub; rw [if_neg (show ¬ t.index = d by omega), if_pos h]))
  have HR3 := Lib.hid (fun (hk : t.kind = 5) (h : t.index < d) => Ty.repl_idx (f := fSub b) (i := t.index) hk (by unfold fSub; rw [if_neg (show ¬ t.index = d by omega), if_neg (show ¬ d < t.index by omega)]))
  have HR4 := Lib.hid (fun (hk : ¬ t.kind = 5) => Ty.repl_other (f := fSub b) (d := d) hk)
  generalize t.repl (fSub b) d = T at *
  generalize t.kind = k, t.name = nm, t.index = ix, t.args = args at *
  generalize hln : args.length = m at *
  have HLN := Lib.hid hln
  clear hln
  have HBL0 := Lib.hid HBY.out.sl
  have HKB : Hid (b = ⟨b.kind, b.name, b.index, b.args⟩) := Lib.hid (by cases b; rfl)
  by_cases hk5 : k = 5
  · subst hk5
    by_cases hd : ix = d
    · have HEQ := Lib.hid (HR1.out rfl hd)
      subst hd
      clear HR1 HR2 HR3 HR4
      generalize b.kind = kb, b.name = nb, b.index = ib, b.args = bargs at *
      generalize hlb : bargs.length = lb at *
      have HLB := Lib.hid hlb
      clear hlb
      have HX : Hid (∀ W : World, W = ((w.alloc (.cells #[.int .i64 5, .string nm, .int .i64 ix, .slice A0 m c0] 25)).alloc (.cells #[.int .i64 kb, .string nb, .int .i64 ib, .slice Ab lb cb] 25)).alloc (.cells #[.int .i64 kb, .string nb, .int .i64 ib, .slice Ab lb cb] 25) → SubR T P w (.returned (.agg #[.int .i64 kb, .string nb, .int .i64 ib, .slice Ab lb cb])) W) := Lib.hid (fun W hW => by
        have hbW : Below w.heap.size w W := by subst hW; exact below_step (below_step (below_new _ _) (below_new _ _)) (below_new _ _)
        clear hW
        have e := HEQ.out.trans HKB.out
        subst e
        rw [← HLB.out] at HBL0 ⊢
        exact ⟨Ab, cb, rfl, IsTyP.mk_ (HBL0.out.keep (P' := fun b => P b ∨ (w.heap.size ≤ b ∧ b < W.heap.size)) (fun b hb => hbW.block b (HP.out b hb)) (fun b hb => .inl hb)), hbW⟩)
      clear HEQ HKB HBL0 HLB
      go_enter Tryd.func67, Tryd.ntmps67
      go_wp2
      go_returns
      exact HX.out _ rfl
    · have hd' : (ix == d) = false := by rw [beq_eq_false_iff_ne]; exact hd
      by_cases hd2 : d < ix
      · have HEQ := Lib.hid (HR2.out rfl hd2)
        clear HR1 HR2 HR3 HR4
        have hwx : IntKind.i64.wrap (ix - 1) = ix - 1 := IntWalk.i64_in _ (by omega)
        generalize b.kind = kb, b.name = nb, b.index = ib, b.args.length = lb at *
        have HX0 := Lib.hid (four_boxes P w 5 (ix - 1) nm A0 m c0 (.int .i64 kb) (.string nb) (.int .i64 ib) (.slice Ab lb cb) 5 (ix - 1) nm)
        go_enter Tryd.func67, Tryd.ntmps67
        go_wp2
        generalize hW0 : (((w.alloc _).alloc _).alloc _).alloc _ = W0
        obtain ⟨wb, hbb, hsb, htb, hvb, hrb, hbp0⟩ := HX0.out W0 hW0.symm
        have HBP0 := Lib.hid hbp0
        have HRB := Lib.hid hrb
        have HTB := Lib.hid htb
        have HVB := Lib.hid hvb
        have HPT : Hid (∀ b, P b → b < w.heap.size + 1 + 1 + 1) := Lib.hid (fun b hb => by have := HP.out b hb; omega)
        clear hW0 HX0 hbp0 hrb htb hvb
        go_loopw [8] (fun i wr => ∃ j : Nat, j ≤ m ∧ i = .int .i64 j ∧ Hid (∃ v ts, ts.length = j ∧ ts = Ty.repls (fSub b) 5 (args.take j) 0 d ∧ BP P (w.heap.size + 1 + 1 + 1) wb wr 5 nm (ix - 1) v ts)) (fun i _ => m - (intOf i).toNat)
        case atStart => exact ⟨0, by omega, rfl, Lib.hid ⟨_, [], rfl, by simp [Ty.repls], HBP0.out⟩⟩
        case round =>
          obtain ⟨j, hj, rfl, HBL⟩ := hrel
          obtain ⟨v, ts, hlen, hts, hbp⟩ := HBL.out
          subst hlen
          have hbwb := hbp.2.1
          have hbwr : Below w.heap.size w wr := hbb.trans (hbwb.mono hbb.size)
          have hltt0 := blk_lt' hbp.1
          have HTB0 := Lib.hid ((hbwb.block w.heap.size (by omega)).trans HTB.out)
          clear HBL HBP0
          by_cases hjn : ts.length < m
          · obtain ⟨g, o, A', c', hj', rfl, hg1, e0, e1, e2, e3, ht⟩ := HV.out.at_ (fun b hb => hbwr.block b (HP.out b hb)) hjn
            have hsg := Ty.size_get ts.length hj'
            have hdg := Ty.depth_get ts.length hj'
            have HTK : Hid (ts ++ [args[ts.length].repl (fSub b) (d + bindI 5 ts.length)] = Ty.repls (fSub b) 5 (args.take (ts.length + 1)) 0 d) := Lib.hid (by rw [Ty.repls_take _ _ _ _ _ hj', ← hts, Nat.zero_add])
            have HNJ := Lib.hid (Ty.nar_get HNAR.out ts.length hj')
            have HOJ := Lib.hid (Ty.ok_get HOKS.out ts.length hj')
            have HTE := Lib.hid ht
            have hgw := HP.out g hg1
            have hs0 := hbwr.size
            have hbq0 := bindI_le 5 ts.length
            have HBND := Lib.hid (fun (W : World) => c_rbinders 5 nm (ix - 1) (.slice (some ⟨g, o, none⟩) m c0) ts.length W)
            have hal := hbp
            clear ht hts hbp
            generalize args[ts.length] = te at *
            generalize bindI 5 ts.length = bq at *
            obtain ⟨hbq0, hbq1⟩ := hbq0
            have hwrap : IntKind.i64.wrap (d + bq) = d + bq := IntWalk.i64_in _ (by omega)
            obtain ⟨⟨y0, y1, y2, y3⟩, _⟩ := box_frozen HTB0.out
            have hj0 : (0 : Int) ≤ (ts.length : Int) := by omega
            have hjm : (ts.length : Int) < (m : Int) := by omega
            obtain ⟨⟨yb0, yb1, yb2, yb3⟩, _⟩ := box_frozen ((hbwb.block (w.heap.size + 1) (by omega)).trans HVB.out)
            have HA := Lib.hid hal
            obtain ⟨A, c, rfl⟩ := hal.2.2.form
            have hltt := blk_lt' hal.1
            have hsgw := hal.2.1.size
            have HOG := Lib.hid hal.2.2.own_ge
            have b3 : wr.cell? ⟨w.heap.size + 1 + 1 + 1, 3, none⟩ = some (.slice A ts.length c) := hal.cell0.2.2.2
            obtain ⟨i0, hi0, hz0, hz1, hz2⟩ := info_parts info_Type
            have HI : Hid (i0.zero = some (.agg #[.int .i64 0, .string ⟨#[]⟩, .int .i64 0, .slice none 0 0]) ∧ i0.size = 4 ∧ i0.bytes = 56) := Lib.hid ⟨hz0, hz1, hz2⟩
            clear hz0 hz1 hz2
            have Hi0 := Lib.hid hi0
            clear hi0 hal
            have SKS : Hid (∀ W' : World, Below wb.heap.size wb W' → W'.cell? ⟨w.heap.size + 1 + 1 + 1, 3, none⟩ = some (.slice A ts.length c) → (fun W' : World => Below wb.heap.size wb W' ∧ (W'.cell? ⟨w.heap.size, 0, none⟩ = some (.int .i64 5) ∧ W'.cell? ⟨w.heap.size, 1, none⟩ = some (.string nm) ∧ W'.cell? ⟨w.heap.size, 2, none⟩ = some (.int .i64 ((ix - 1))) ∧ W'.cell? ⟨w.heap.size, 3, none⟩ = some (.slice (some ⟨g, o, none⟩) m c0)) ∧ (W'.cell? ⟨g, o + ts.length * 4, none⟩ = some (.int .i64 te.kind) ∧ W'.cell? ⟨g, o + ts.length * 4 + 1, none⟩ = some (.string te.name) ∧ W'.cell? ⟨g, o + ts.length * 4 + 2, none⟩ = some (.int .i64 te.index) ∧ W'.cell? ⟨g, o + ts.length * 4 + 3, none⟩ = some (.slice A' te.args.length c')) ∧ (W'.cell? ⟨w.heap.size + 1, 0, none⟩ = some (.int .i64 kb) ∧ W'.cell? ⟨w.heap.size + 1, 1, none⟩ = some (.string nb) ∧ W'.cell? ⟨w.heap.size + 1, 2, none⟩ = some (.int .i64 ib) ∧ W'.cell? ⟨w.heap.size + 1, 3, none⟩ = some (.slice Ab lb cb)) ∧ W'.cell? ⟨w.heap.size + 1 + 1 + 1, 3, none⟩ = some (.slice A ts.length c)) W') := Lib.hid (fun W' hb' hq => by
              have hc : ∀ (b i : Nat), b < wb.heap.size → W'.cell? ⟨b, i, none⟩ = wr.cell? ⟨b, i, none⟩ := fun b i hb => (hb'.cell (p := ⟨b, i, none⟩) hb).trans (hbwb.cell (p := ⟨b, i, none⟩) hb).symm
              exact ⟨hb', ⟨(hc _ _ (by omega)).trans y0, (hc _ _ (by omega)).trans y1, (hc _ _ (by omega)).trans y2, (hc _ _ (by omega)).trans y3⟩, ⟨(hc _ _ (by omega)).trans e0, (hc _ _ (by omega)).trans e1, (hc _ _ (by omega)).trans e2, (hc _ _ (by omega)).trans e3⟩, ⟨(hc _ _ (by omega)).trans yb0, (hc _ _ (by omega)).trans yb1, (hc _ _ (by omega)).trans yb2, (hc _ _ (by omega)).trans yb3⟩, hq⟩)
            go_wp2
            clear y0 y1 y2 y3 e0 e1 e2 e3
            refine wp_region_ord (fun W' : World => Below wb.heap.size wb W' ∧ (W'.cell? ⟨w.heap.size, 0, none⟩ = some (.int .i64 5) ∧ W'.cell? ⟨w.heap.size, 1, none⟩ = some (.string nm) ∧ W'.cell? ⟨w.heap.size, 2, none⟩ = some (.int .i64 ((ix - 1))) ∧ W'.cell? ⟨w.heap.size, 3, none⟩ = some (.slice (some ⟨g, o, none⟩) m c0)) ∧ (W'.cell? ⟨g, o + ts.length * 4, none⟩ = some (.int .i64 te.kind) ∧ W'.cell? ⟨g, o + ts.length * 4 + 1, none⟩ = some (.string te.name) ∧ W'.cell? ⟨g, o + ts.length * 4 + 2, none⟩ = some (.int .i64 te.index) ∧ W'.cell? ⟨g, o + ts.length * 4 + 3, none⟩ = some (.slice A' te.args.length c')) ∧ (W'.cell? ⟨w.heap.size + 1, 0, none⟩ = some (.int .i64 kb) ∧ W'.cell? ⟨w.heap.size + 1, 1, none⟩ = some (.string nb) ∧ W'.cell? ⟨w.heap.size + 1, 2, none⟩ = some (.int .i64 ib) ∧ W'.cell? ⟨w.heap.size + 1, 3, none⟩ = some (.slice Ab lb cb)) ∧ W'.cell? ⟨w.heap.size + 1 + 1 + 1, 3, none⟩ = some (.slice A ts.length c)) 17 [(0, true), (1, true), (2, true), (3, true), (4, true), (5, true), (6, true), (7, true), (8, true), (9, true), (10, true), (11, false), (12, true), (13, false), (14, false), (15, false), (16, true)] (by kernel_rfl) (by kernel_rfl) (SKS.out _ (below_step hbwb (below_drew _)) b3) (fun hHeld => ?_)
            simp only [pickOps, List.getElem?_cons_succ, List.getElem?_cons_zero, List.drop_succ_cons, List.drop_zero]
            iterate 11 (refine wpOrd_take (v := ?_) (fun _ _ _ h => h) (Or.inl ⟨by rfl, ?_⟩) (by assumption) ?_; rotate_left; (focus (intro w hSw; (try dsimp only at hSw); go_simp; (try with_reducible rfl))); (try simp only [Act.put, List.setIfInBounds_toArray, List.set_cons_zero, List.set_cons_succ]))
            refine wpOrd_do (fun K hK => ?_)
            go_simp
            go_at_call 79
            refine (HBND.out _).mono ?_
            rintro e w3 ⟨rfl, hb3⟩
            have hbq3 : Below wr.heap.size wr w3 := below_step (below_drew _) hb3
            have hs3 := hbq3.size
            have q33 : w3.cell? ⟨w.heap.size + 1 + 1 + 1, 3, none⟩ = some (.slice A ts.length c) := (hbq3.cell (p := ⟨w.heap.size + 1 + 1 + 1, 3, none⟩) hltt).trans b3
            clear hb3
            refine hK.out _ _ (SKS.out _ (below_step hbwb hbq3) q33) (fun hHeld => ?_)
            clear hK K
            (try simp only [Act.put, List.setIfInBounds_toArray, List.set_cons_zero, List.set_cons_succ])
            iterate 1 (refine wpOrd_take (v := ?_) (fun _ _ _ h => h) (Or.inl ⟨by rfl, ?_⟩) (by assumption) ?_; rotate_left; (focus (intro w hSw; (try dsimp only at hSw); go_simp; (try with_reducible rfl))); (try simp only [Act.put, List.setIfInBounds_toArray, List.set_cons_zero, List.set_cons_succ]))
            refine wpOrd_do (fun K hK => ?_)
            go_simp
            go_at_call 67
            refine (IH.out te _ P _ _ (by omega) (HTE.out.below hbq3 (fun b hb => by have := HP.out b hb; omega)) (HBY.out.below (below_step hbwr hbq3) HP.out) (fun b hb => by have := HP.out b hb; omega) HNJ.out HOJ.out (by omega) (by omega)).mono ?_
            rintro e w4 ⟨A1, C1, rfl, hty1, hb4⟩
            have tok4 : True := trivial
            have HB4 := Lib.hid (below_step hbq3 hb4)
            generalize te.repl (fSub b) (d + bq) = t1 at *
            have HTY := Lib.hid (IsTyP.keep (P' := fun b => P b ∨ (wr.heap.size ≤ b ∧ b < w4.heap.size)) (fun _ _ => rfl) (fun b h => h.imp id (fun h => ⟨by omega, h.2⟩)) hty1)
            have hs4 := HB4.out.size
            have hlt4 : w.heap.size + 1 + 1 + 1 < w4.heap.size := by omega
            have ht4 := (HB4.out.block (w.heap.size + 1 + 1 + 1) hltt).trans HA.out.1
            have q43 : w4.cell? ⟨w.heap.size + 1 + 1 + 1, 3, none⟩ = some (.slice A ts.length c) := by rw [cell_of_row w4 (w.heap.size + 1 + 1 + 1) 3 _ _ _ ht4]; rfl
            obtain ⟨xs, hown4, hel4⟩ := HA.out.acc4 HPT.out HB4.out (.cells #[.int .i64 t1.kind, .string t1.name, .int .i64 t1.index, .slice A1 t1.args.length C1] 25)
            have HEL := Lib.hid hel4
            clear hel4 hty1 hb4
            refine hK.out _ _ (SKS.out _ (below_step hbwb HB4.out) q43) (fun hHeld => ?_)
            clear hK K
            (try simp only [Act.put, List.setIfInBounds_toArray, List.set_cons_zero, List.set_cons_succ])
            refine wpOrd_do (fun K hK => ?_)
            go_simp
            refine hK.out _ _ (SKS.out _ (below_step (below_step hbwb HB4.out) (below_new _ _)) (by rw [Below.cell (below_new _ _) (show w.heap.size + 1 + 1 + 1 < _ by omega)]; exact q43)) (fun hHeld => ?_)
            clear hK K
            (try simp only [Act.put, List.setIfInBounds_toArray, List.set_cons_zero, List.set_cons_succ])
            refine wpOrd_do (fun K hK => ?_)
            first
            | (have _t := tok4; refine step_append_rd _ ?_ (.tmp 37) (.tmp 50) _ ?_ (w.heap.size + 1 + 1 + 1 + 1) 25 i0 (.agg #[.int .i64 0, .string ⟨#[]⟩, .int .i64 0, .slice none 0 0]) 4 56 Tryd.underlying23 Hi0.out HI.out.1 HI.out.2.1 HI.out.2.2 rfl ?_ (.slice A ts.length c) ts.length xs ?_ ?_ (w4.heap.size + 1) (some ⟨w4.heap.size, 0, none⟩) 1 1 [.int .i64 t1.kind, .string t1.name, .int .i64 t1.index, .slice A1 t1.args.length C1] ?_ ?_ ?_ ?_ ?_ ?_; rfl; rfl; omega; rfl; exact hown4; rfl; exact Rd.blk (cs := #[.int .i64 t1.kind, .string t1.name, .int .i64 t1.index, .slice A1 t1.args.length C1]) (blk_new w4 _) rfl (by omega); exact (by simp [Value.oneCell']); omega; go_size; intro v5 w5 hown5 hg5 hat5
               have hs5 := hg5.size
               have ht5 := (hg5.block (w.heap.size + 1 + 1 + 1) (by simp; omega) (fun e => by have := HOG.out (w.heap.size + 1 + 1 + 1) e.symm; omega)).trans (blk_old ht4)
               have q3 : w5.cell? ⟨w.heap.size + 1 + 1 + 1, 3, none⟩ = some (.slice A ts.length c) := by rw [cell_of_row w5 (w.heap.size + 1 + 1 + 1) 3 _ _ _ ht5]; rfl
               have q4 : w5.frozen? ⟨w.heap.size + 1 + 1 + 1, 3, none⟩ = false := by simp [World.frozen?, ht5]
               obtain ⟨A5, c5, rfl⟩ : ∃ A c, v5 = .slice A (ts.length + 1) c := by
                 rcases hown5.2 with ⟨_, h0⟩ | ⟨g, cap, cur, rfl, _⟩
                 · omega
                 · exact ⟨_, _, rfl⟩
               have HFIN := Lib.hid (HA.out.round HPT.out (by omega) HB4.out HTY.out HEL.out hown4 hown5 hg5 hat5)
               have HBW5 := Lib.hid (Below.grown (below_step (below_step hbwb HB4.out) (below_new w4 _)) hg5 (by have := (below_step hbwb HB4.out).size; simp; omega) (fun k hk => by have := HOG.out k hk; omega))
               clear hown5 hg5 hat5 ht5)
            refine hK.out _ _ (SKS.out _ HBW5.out q3) (fun hHeld => ?_)
            clear hK K
            (try simp only [Act.put, List.setIfInBounds_toArray, List.set_cons_zero, List.set_cons_succ])
            iterate 1 (refine wpOrd_take (v := ?_) (fun _ _ _ h => h) (Or.inl ⟨by rfl, ?_⟩) (by assumption) ?_; rotate_left; (focus (intro w hSw; (try dsimp only at hSw); go_simp; (try with_reducible rfl))); (try simp only [Act.put, List.setIfInBounds_toArray, List.set_cons_zero, List.set_cons_succ]))
            refine wpOrd_end ?_
            clear HEL HB4 HTY hown4 q43 ht4 HA
            go_wp2
            go_roundw
            case rel => exact ⟨ts.length + 1, by omega, by go_num, Lib.hid ⟨_, _, by simp, HTK.out, HFIN.out⟩⟩
            case measure => simp [intOf]; omega
          · obtain ⟨Av, cv, rfl⟩ := hbp.2.2.form
            have hjl : ts.length = m := by omega
            have htt : ts = Ty.repls (fSub b) 5 args 0 d := by rw [hts, hjl, ← HLN.out, List.take_length]
            have hrr : wr.heap[w.heap.size + 1 + 1]? = some (.cells #[.int .i64 0, .string ⟨#[]⟩, .int .i64 0, .slice none 0 0] 25 (0, 0)) := (hbwb.block _ (by omega)).trans HRB.out
            obtain ⟨⟨r0, r1, r2, r3⟩, f0, f1, f2, f3⟩ := box_frozen hrr
            obtain ⟨y0, y1, y2, y3⟩ := hbp.cell0
            obtain ⟨⟨_, _, _, yt3⟩, _⟩ := box_frozen HTB0.out
            have HFB := Lib.hid (sub_fin (T := T) (nm := nm) (show w.heap.size ≤ w.heap.size + 1 + 1 by omega) HP.out hbwr (by rw [htt]; exact HEQ.out) rfl hbp.2.2.isTylP (fun b hb => by
              rcases hb with h | h
              · exact .inl h
              · exact .inr ⟨by omega, h.2⟩) hrr)
            clear hbp hrr hts htt hjl
            go_wp2
            generalize hWF : (((wr.setCell _ _).setCell _ _).setCell _ _).setCell _ _ = WF
            obtain ⟨hfin, z0, z1, z2, z3⟩ := HFB.out WF hWF.symm
            clear hWF
            exact bodyPost_ret (v := .agg #[.int .i64 5, .string nm, .int .i64 ((ix - 1)), .slice Av ts.length cv]) (by simp [results, Tryd.results67, go_sem, z0, z1, z2, z3]) rfl hfin.out
      · have HEQ := Lib.hid (HR3.out rfl (by omega))
        clear HR1 HR2 HR3 HR4
        generalize b.kind = kb, b.name = nb, b.index = ib, b.args.length = lb at *
        have HX0 := Lib.hid (four_boxes P w 5 ix nm A0 m c0 (.int .i64 kb) (.string nb) (.int .i64 ib) (.slice Ab lb cb) 5 ix nm)
        go_enter Tryd.func67, Tryd.ntmps67
        go_wp2
        generalize hW0 : (((w.alloc _).alloc _).alloc _).alloc _ = W0
        obtain ⟨wb, hbb, hsb, htb, hvb, hrb, hbp0⟩ := HX0.out W0 hW0.symm
        have HBP0 := Lib.hid hbp0
        have HRB := Lib.hid hrb
        have HTB := Lib.hid htb
        have HVB := Lib.hid hvb
        have HPT : Hid (∀ b, P b → b < w.heap.size + 1 + 1 + 1) := Lib.hid (fun b hb => by have := HP.out b hb; omega)
        clear hW0 HX0 hbp0 hrb htb hvb
        go_loopw [8] (fun i wr => ∃ j : Nat, j ≤ m ∧ i = .int .i64 j ∧ Hid (∃ v ts, ts.length = j ∧ ts = Ty.repls (fSub b) 5 (args.take j) 0 d ∧ BP P (w.heap.size + 1 + 1 + 1) wb wr 5 nm ix v ts)) (fun i _ => m - (intOf i).toNat)
        case atStart => exact ⟨0, by omega, rfl, Lib.hid ⟨_, [], rfl, by simp [Ty.repls], HBP0.out⟩⟩
        case round =>
          obtain ⟨j, hj, rfl, HBL⟩ := hrel
          obtain ⟨v, ts, hlen, hts, hbp⟩ := HBL.out
          subst hlen
          have hbwb := hbp.2.1
          have hbwr : Below w.heap.size w wr := hbb.trans (hbwb.mono hbb.size)
          have hltt0 := blk_lt' hbp.1
          have HTB0 := Lib.hid ((hbwb.block w.heap.size (by omega)).trans HTB.out)
          clear HBL HBP0
          by_cases hjn : ts.length < m
          · obtain ⟨g, o, A', c', hj', rfl, hg1, e0, e1, e2, e3, ht⟩ := HV.out.at_ (fun b hb => hbwr.block b (HP.out b hb)) hjn
            have hsg := Ty.size_get ts.length hj'
            have hdg := Ty.depth_get ts.length hj'
            have HTK : Hid (ts ++ [args[ts.length].repl (fSub b) (d + bindI 5 ts.length)] = Ty.repls (fSub b) 5 (args.take (ts.length + 1)) 0 d) := Lib.hid (by rw [Ty.repls_take _ _ _ _ _ hj', ← hts, Nat.zero_add])
            have HNJ := Lib.hid (Ty.nar_get HNAR.out ts.length hj')
            have HOJ := Lib.hid (Ty.ok_get HOKS.out ts.length hj')
            have HTE := Lib.hid ht
            have hgw := HP.out g hg1
            have hs0 := hbwr.size
            have hbq0 := bindI_le 5 ts.length
            have HBND := Lib.hid (fun (W : World) => c_rbinders 5 nm ix (.slice (some ⟨g, o, none⟩) m c0) ts.length W)
            have hal := hbp
            clear ht hts hbp
            generalize args[ts.length] = te at *
            generalize bindI 5 ts.length = bq at *
            obtain ⟨hbq0, hbq1⟩ := hbq0
            have hwrap : IntKind.i64.wrap (d + bq) = d + bq := IntWalk.i64_in _ (by omega)
            obtain ⟨⟨y0, y1, y2, y3⟩, _⟩ := box_frozen HTB0.out
            have hj0 : (0 : Int) ≤ (ts.length : Int) := by omega
            have hjm : (ts.length : Int) < (m : Int) := by omega
            obtain ⟨⟨yb0, yb1, yb2, yb3⟩, _⟩ := box_frozen ((hbwb.block (w.heap.size + 1) (by omega)).trans HVB.out)
            have HA := Lib.hid hal
            obtain ⟨A, c, rfl⟩ := hal.2.2.form
            have hltt := blk_lt' hal.1
            have hsgw := hal.2.1.size
            have HOG := Lib.hid hal.2.2.own_ge
            have b3 : wr.cell? ⟨w.heap.size + 1 + 1 + 1, 3, none⟩ = some (.slice A ts.length c) := hal.cell0.2.2.2
            obtain ⟨i0, hi0, hz0, hz1, hz2⟩ := info_parts info_Type
            have HI : Hid (i0.zero = some (.agg #[.int .i64 0, .string ⟨#[]⟩, .int .i64 0, .slice none 0 0]) ∧ i0.size = 4 ∧ i0.bytes = 56) := Lib.hid ⟨hz0, hz1, hz2⟩
            clear hz0 hz1 hz2
            have Hi0 := Lib.hid hi0
            clear hi0 hal
            have SKS : Hid (∀ W' : World, Below wb.heap.size wb W' → W'.cell? ⟨w.heap.size + 1 + 1 + 1, 3, none⟩ = some (.slice A ts.length c) → (fun W' : World => Below wb.heap.size wb W' ∧ (W'.cell? ⟨w.heap.size, 0, none⟩ = some (.int .i64 5) ∧ W'.cell? ⟨w.heap.size, 1, none⟩ = some (.string nm) ∧ W'.cell? ⟨w.heap.size, 2, none⟩ = some (.int .i64 (ix)) ∧ W'.cell? ⟨w.heap.size, 3, none⟩ = some (.slice (some ⟨g, o, none⟩) m c0)) ∧ (W'.cell? ⟨g, o + ts.length * 4, none⟩ = some (.int .i64 te.kind) ∧ W'.cell? ⟨g, o + ts.length * 4 + 1, none⟩ = some (.string te.name) ∧ W'.cell? ⟨g, o + ts.length * 4 + 2, none⟩ = some (.int .i64 te.index) ∧ W'.cell? ⟨g, o + ts.length * 4 + 3, none⟩ = some (.slice A' te.args.length c')) ∧ (W'.cell? ⟨w.heap.size + 1, 0, none⟩ = some (.int .i64 kb) ∧ W'.cell? ⟨w.heap.size + 1, 1, none⟩ = some (.string nb) ∧ W'.cell? ⟨w.heap.size + 1, 2, none⟩ = some (.int .i64 ib) ∧ W'.cell? ⟨w.heap.size + 1, 3, none⟩ = some (.slice Ab lb cb)) ∧ W'.cell? ⟨w.heap.size + 1 + 1 + 1, 3, none⟩ = some (.slice A ts.length c)) W') := Lib.hid (fun W' hb' hq => by
              have hc : ∀ (b i : Nat), b < wb.heap.size → W'.cell? ⟨b, i, none⟩ = wr.cell? ⟨b, i, none⟩ := fun b i hb => (hb'.cell (p := ⟨b, i, none⟩) hb).trans (hbwb.cell (p := ⟨b, i, none⟩) hb).symm
              exact ⟨hb', ⟨(hc _ _ (by omega)).trans y0, (hc _ _ (by omega)).trans y1, (hc _ _ (by omega)).trans y2, (hc _ _ (by omega)).trans y3⟩, ⟨(hc _ _ (by omega)).trans e0, (hc _ _ (by omega)).trans e1, (hc _ _ (by omega)).trans e2, (hc _ _ (by omega)).trans e3⟩, ⟨(hc _ _ (by omega)).trans yb0, (hc _ _ (by omega)).trans yb1, (hc _ _ (by omega)).trans yb2, (hc _ _ (by omega)).trans yb3⟩, hq⟩)
            go_wp2
            clear y0 y1 y2 y3 e0 e1 e2 e3
            refine wp_region_ord (fun W' : World => Below wb.heap.size wb W' ∧ (W'.cell? ⟨w.heap.size, 0, none⟩ = some (.int .i64 5) ∧ W'.cell? ⟨w.heap.size, 1, none⟩ = some (.string nm) ∧ W'.cell? ⟨w.heap.size, 2, none⟩ = some (.int .i64 (ix)) ∧ W'.cell? ⟨w.heap.size, 3, none⟩ = some (.slice (some ⟨g, o, none⟩) m c0)) ∧ (W'.cell? ⟨g, o + ts.length * 4, none⟩ = some (.int .i64 te.kind) ∧ W'.cell? ⟨g, o + ts.length * 4 + 1, none⟩ = some (.string te.name) ∧ W'.cell? ⟨g, o + ts.length * 4 + 2, none⟩ = some (.int .i64 te.index) ∧ W'.cell? ⟨g, o + ts.length * 4 + 3, none⟩ = some (.slice A' te.args.length c')) ∧ (W'.cell? ⟨w.heap.size + 1, 0, none⟩ = some (.int .i64 kb) ∧ W'.cell? ⟨w.heap.size + 1, 1, none⟩ = some (.string nb) ∧ W'.cell? ⟨w.heap.size + 1, 2, none⟩ = some (.int .i64 ib) ∧ W'.cell? ⟨w.heap.size + 1, 3, none⟩ = some (.slice Ab lb cb)) ∧ W'.cell? ⟨w.heap.size + 1 + 1 + 1, 3, none⟩ = some (.slice A ts.length c)) 17 [(0, true), (1, true), (2, true), (3, true), (4, true), (5, true), (6, true), (7, true), (8, true), (9, true), (10, true), (11, false), (12, true), (13, false), (14, false), (15, false), (16, true)] (by kernel_rfl) (by kernel_rfl) (SKS.out _ (below_step hbwb (below_drew _)) b3) (fun hHeld => ?_)
            simp only [pickOps, List.getElem?_cons_succ, List.getElem?_cons_zero, List.drop_succ_cons, List.drop_zero]
            iterate 11 (refine wpOrd_take (v := ?_) (fun _ _ _ h => h) (Or.inl ⟨by rfl, ?_⟩) (by assumption) ?_; rotate_left; (focus (intro w hSw; (try dsimp only at hSw); go_simp; (try with_reducible rfl))); (try simp only [Act.put, List.setIfInBounds_toArray, List.set_cons_zero, List.set_cons_succ]))
            refine wpOrd_do (fun K hK => ?_)
            go_simp
            go_at_call 79
            refine (HBND.out _).mono ?_
            rintro e w3 ⟨rfl, hb3⟩
            have hbq3 : Below wr.heap.size wr w3 := below_step (below_drew _) hb3
            have hs3 := hbq3.size
            have q33 : w3.cell? ⟨w.heap.size + 1 + 1 + 1, 3, none⟩ = some (.slice A ts.length c) := (hbq3.cell (p := ⟨w.heap.size + 1 + 1 + 1, 3, none⟩) hltt).trans b3
            clear hb3
            refine hK.out _ _ (SKS.out _ (below_step hbwb hbq3) q33) (fun hHeld => ?_)
            clear hK K
            (try simp only [Act.put, List.setIfInBounds_toArray, List.set_cons_zero, List.set_cons_succ])
            iterate 1 (refine wpOrd_take (v := ?_) (fun _ _ _ h => h) (Or.inl ⟨by rfl, ?_⟩) (by assumption) ?_; rotate_left; (focus (intro w hSw; (try dsimp only at hSw); go_simp; (try with_reducible rfl))); (try simp only [Act.put, List.setIfInBounds_toArray, List.set_cons_zero, List.set_cons_succ]))
            refine wpOrd_do (fun K hK => ?_)
            go_simp
            go_at_call 67
            refine (IH.out te _ P _ _ (by omega) (HTE.out.below hbq3 (fun b hb => by have := HP.out b hb; omega)) (HBY.out.below (below_step hbwr hbq3) HP.out) (fun b hb => by have := HP.out b hb; omega) HNJ.out HOJ.out (by omega) (by omega)).mono ?_
            rintro e w4 ⟨A1, C1, rfl, hty1, hb4⟩
            have tok4 : True := trivial
            have HB4 := Lib.hid (below_step hbq3 hb4)
            generalize te.repl (fSub b) (d + bq) = t1 at *
            have HTY := Lib.hid (IsTyP.keep (P' := fun b => P b ∨ (wr.heap.size ≤ b ∧ b < w4.heap.size)) (fun _ _ => rfl) (fun b h => h.imp id (fun h => ⟨by omega, h.2⟩)) hty1)
            have hs4 := HB4.out.size
            have hlt4 : w.heap.size + 1 + 1 + 1 < w4.heap.size := by omega
            have ht4 := (HB4.out.block (w.heap.size + 1 + 1 + 1) hltt).trans HA.out.1
            have q43 : w4.cell? ⟨w.heap.size + 1 + 1 + 1, 3, none⟩ = some (.slice A ts.length c) := by rw [cell_of_row w4 (w.heap.size + 1 + 1 + 1) 3 _ _ _ ht4]; rfl
            obtain ⟨xs, hown4, hel4⟩ := HA.out.acc4 HPT.out HB4.out (.cells #[.int .i64 t1.kind, .string t1.name, .int .i64 t1.index, .slice A1 t1.args.length C1] 25)
            have HEL := Lib.hid hel4
            clear hel4 hty1 hb4
            refine hK.out _ _ (SKS.out _ (below_step hbwb HB4.out) q43) (fun hHeld => ?_)
            clear hK K
            (try simp only [Act.put, List.setIfInBounds_toArray, List.set_cons_zero, List.set_cons_succ])
            refine wpOrd_do (fun K hK => ?_)
            go_simp
            refine hK.out _ _ (SKS.out _ (below_step (below_step hbwb HB4.out) (below_new _ _)) (by rw [Below.cell (below_new _ _) (show w.heap.size + 1 + 1 + 1 < _ by omega)]; exact q43)) (fun hHeld => ?_)
            clear hK K
            (try simp only [Act.put, List.setIfInBounds_toArray, List.set_cons_zero, List.set_cons_succ])
            refine wpOrd_do (fun K hK => ?_)
            first
            | (have _t := tok4; refine step_append_rd _ ?_ (.tmp 37) (.tmp 50) _ ?_ (w.heap.size + 1 + 1 + 1 + 1) 25 i0 (.agg #[.int .i64 0, .string ⟨#[]⟩, .int .i64 0, .slice none 0 0]) 4 56 Tryd.underlying23 Hi0.out HI.out.1 HI.out.2.1 HI.out.2.2 rfl ?_ (.slice A ts.length c) ts.length xs ?_ ?_ (w4.heap.size + 1) (some ⟨w4.heap.size, 0, none⟩) 1 1 [.int .i64 t1.kind, .string t1.name, .int .i64 t1.index, .slice A1 t1.args.length C1] ?_ ?_ ?_ ?_ ?_ ?_; rfl; rfl; omega; rfl; exact hown4; rfl; exact Rd.blk (cs := #[.int .i64 t1.kind, .string t1.name, .int .i64 t1.index, .slice A1 t1.args.length C1]) (blk_new w4 _) rfl (by omega); exact (by simp [Value.oneCell']); omega; go_size; intro v5 w5 hown5 hg5 hat5
               have hs5 := hg5.size
               have ht5 := (hg5.block (w.heap.size + 1 + 1 + 1) (by simp; omega) (fun e => by have := HOG.out (w.heap.size + 1 + 1 + 1) e.symm; omega)).trans (blk_old ht4)
               have q3 : w5.cell? ⟨w.heap.size + 1 + 1 + 1, 3, none⟩ = some (.slice A ts.length c) := by rw [cell_of_row w5 (w.heap.size + 1 + 1 + 1) 3 _ _ _ ht5]; rfl
               have q4 : w5.frozen? ⟨w.heap.size + 1 + 1 + 1, 3, none⟩ = false := by simp [World.frozen?, ht5]
               obtain ⟨A5, c5, rfl⟩ : ∃ A c, v5 = .slice A (ts.length + 1) c := by
                 rcases hown5.2 with ⟨_, h0⟩ | ⟨g, cap, cur, rfl, _⟩
                 · omega
                 · exact ⟨_, _, rfl⟩
               have HFIN := Lib.hid (HA.out.round HPT.out (by omega) HB4.out HTY.out HEL.out hown4 hown5 hg5 hat5)
               have HBW5 := Lib.hid (Below.grown (below_step (below_step hbwb HB4.out) (below_new w4 _)) hg5 (by have := (below_step hbwb HB4.out).size; simp; omega) (fun k hk => by have := HOG.out k hk; omega))
               clear hown5 hg5 hat5 ht5)
            refine hK.out _ _ (SKS.out _ HBW5.out q3) (fun hHeld => ?_)
            clear hK K
            (try simp only [Act.put, List.setIfInBounds_toArray, List.set_cons_zero, List.set_cons_succ])
            iterate 1 (refine wpOrd_take (v := ?_) (fun _ _ _ h => h) (Or.inl ⟨by rfl, ?_⟩) (by assumption) ?_; rotate_left; (focus (intro w hSw; (try dsimp only at hSw); go_simp; (try with_reducible rfl))); (try simp only [Act.put, List.setIfInBounds_toArray, List.set_cons_zero, List.set_cons_succ]))
            refine wpOrd_end ?_
            clear HEL HB4 HTY hown4 q43 ht4 HA
            go_wp2
            go_roundw
            case rel => exact ⟨ts.length + 1, by omega, by go_num, Lib.hid ⟨_, _, by simp, HTK.out, HFIN.out⟩⟩
            case measure => simp [intOf]; omega
          · obtain ⟨Av, cv, rfl⟩ := hbp.2.2.form
            have hjl : ts.length = m := by omega
            have htt : ts = Ty.repls (fSub b) 5 args 0 d := by rw [hts, hjl, ← HLN.out, List.take_length]
            have hrr : wr.heap[w.heap.size + 1 + 1]? = some (.cells #[.int .i64 0, .string ⟨#[]⟩, .int .i64 0, .slice none 0 0] 25 (0, 0)) := (hbwb.block _ (by omega)).trans HRB.out
            obtain ⟨⟨r0, r1, r2, r3⟩, f0, f1, f2, f3⟩ := box_frozen hrr
            obtain ⟨y0, y1, y2, y3⟩ := hbp.cell0
            obtain ⟨⟨_, _, _, yt3⟩, _⟩ := box_frozen HTB0.out
            have HFB := Lib.hid (sub_fin (T := T) (nm := nm) (show w.heap.size ≤ w.heap.size + 1 + 1 by omega) HP.out hbwr (by rw [htt]; exact HEQ.out) rfl hbp.2.2.isTylP (fun b hb => by
              rcases hb with h | h
              · exact .inl h
              · exact .inr ⟨by omega, h.2⟩) hrr)
            clear hbp hrr hts htt hjl
            go_wp2
            generalize hWF : (((wr.setCell _ _).setCell _ _).setCell _ _).setCell _ _ = WF
            obtain ⟨hfin, z0, z1, z2, z3⟩ := HFB.out WF hWF.symm
            clear hWF
            exact bodyPost_ret (v := .agg #[.int .i64 5, .string nm, .int .i64 (ix), .slice Av ts.length cv]) (by simp [results, Tryd.results67, go_sem, z0, z1, z2, z3]) rfl hfin.out
  · have hk5' : (k == 5) = false := by rw [beq_eq_false_iff_ne]; exact hk5
    have HEQ := Lib.hid (HR4.out hk5)
    clear HR1 HR2 HR3 HR4
    generalize b.kind = kb, b.name = nb, b.index = ib, b.args.length = lb at *
    have HX0 := Lib.hid (four_boxes P w k ix nm A0 m c0 (.int .i64 kb) (.string nb) (.int .i64 ib) (.slice Ab lb cb) k ix nm)
    go_enter Tryd.func67, Tryd.ntmps67
    go_wp2
    generalize hW0 : (((w.alloc _).alloc _).alloc _).alloc _ = W0
    obtain ⟨wb, hbb, hsb, htb, hvb, hrb, hbp0⟩ := HX0.out W0 hW0.symm
    have HBP0 := Lib.hid hbp0
    have HRB := Lib.hid hrb
    have HTB := Lib.hid htb
    have HVB := Lib.hid hvb
    have HPT : Hid (∀ b, P b → b < w.heap.size + 1 + 1 + 1) := Lib.hid (fun b hb => by have := HP.out b hb; omega)
    clear hW0 HX0 hbp0 hrb htb hvb
    go_loopw [8] (fun i wr => ∃ j : Nat, j ≤ m ∧ i = .int .i64 j ∧ Hid (∃ v ts, ts.length = j ∧ ts = Ty.repls (fSub b) k (args.take j) 0 d ∧ BP P (w.heap.size + 1 + 1 + 1) wb wr k nm ix v ts)) (fun i _ => m - (intOf i).toNat)
    case atStart => exact ⟨0, by omega, rfl, Lib.hid ⟨_, [], rfl, by simp [Ty.repls], HBP0.out⟩⟩
    case round =>
      obtain ⟨j, hj, rfl, HBL⟩ := hrel
      obtain ⟨v, ts, hlen, hts, hbp⟩ := HBL.out
      subst hlen
      have hbwb := hbp.2.1
      have hbwr : Below w.heap.size w wr := hbb.trans (hbwb.mono hbb.size)
      have hltt0 := blk_lt' hbp.1
      have HTB0 := Lib.hid ((hbwb.block w.heap.size (by omega)).trans HTB.out)
      clear HBL HBP0
      by_cases hjn : ts.length < m
      · obtain ⟨g, o, A', c', hj', rfl, hg1, e0, e1, e2, e3, ht⟩ := HV.out.at_ (fun b hb => hbwr.block b (HP.out b hb)) hjn
        have hsg := Ty.size_get ts.length hj'
        have hdg := Ty.depth_get ts.length hj'
        have HTK : Hid (ts ++ [args[ts.length].repl (fSub b) (d + bindI k ts.length)] = Ty.repls (fSub b) k (args.take (ts.length + 1)) 0 d) := Lib.hid (by rw [Ty.repls_take _ _ _ _ _ hj', ← hts, Nat.zero_add])
        have HNJ := Lib.hid (Ty.nar_get HNAR.out ts.length hj')
        have HOJ := Lib.hid (Ty.ok_get HOKS.out ts.length hj')
        have HTE := Lib.hid ht
        have hgw := HP.out g hg1
        have hs0 := hbwr.size
        have hbq0 := bindI_le k ts.length
        have HBND := Lib.hid (fun (W : World) => c_rbinders k nm ix (.slice (some ⟨g, o, none⟩) m c0) ts.length W)
        have hal := hbp
        clear ht hts hbp
        generalize args[ts.length] = te at *
        generalize bindI k ts.length = bq at *
        obtain ⟨hbq0, hbq1⟩ := hbq0
        have hwrap : IntKind.i64.wrap (d + bq) = d + bq := IntWalk.i64_in _ (by omega)
        obtain ⟨⟨y0, y1, y2, y3⟩, _⟩ := box_frozen HTB0.out
        have hj0 : (0 : Int) ≤ (ts.length : Int) := by omega
        have hjm : (ts.length : Int) < (m : Int) := by omega
        obtain ⟨⟨yb0, yb1, yb2, yb3⟩, _⟩ := box_frozen ((hbwb.block (w.heap.size + 1) (by omega)).trans HVB.out)
        have HA := Lib.hid hal
        obtain ⟨A, c, rfl⟩ := hal.2.2.form
        have hltt := blk_lt' hal.1
        have hsgw := hal.2.1.size
        have HOG := Lib.hid hal.2.2.own_ge
        have b3 : wr.cell? ⟨w.heap.size + 1 + 1 + 1, 3, none⟩ = some (.slice A ts.length c) := hal.cell0.2.2.2
        obtain ⟨i0, hi0, hz0, hz1, hz2⟩ := info_parts info_Type
        have HI : Hid (i0.zero = some (.agg #[.int .i64 0, .string ⟨#[]⟩, .int .i64 0, .slice none 0 0]) ∧ i0.size = 4 ∧ i0.bytes = 56) := Lib.hid ⟨hz0, hz1, hz2⟩
        clear hz0 hz1 hz2
        have Hi0 := Lib.hid hi0
        clear hi0 hal
        have SKS : Hid (∀ W' : World, Below wb.heap.size wb W' → W'.cell? ⟨w.heap.size + 1 + 1 + 1, 3, none⟩ = some (.slice A ts.length c) → (fun W' : World => Below wb.heap.size wb W' ∧ (W'.cell? ⟨w.heap.size, 0, none⟩ = some (.int .i64 k) ∧ W'.cell? ⟨w.heap.size, 1, none⟩ = some (.string nm) ∧ W'.cell? ⟨w.heap.size, 2, none⟩ = some (.int .i64 (ix)) ∧ W'.cell? ⟨w.heap.size, 3, none⟩ = some (.slice (some ⟨g, o, none⟩) m c0)) ∧ (W'.cell? ⟨g, o + ts.length * 4, none⟩ = some (.int .i64 te.kind) ∧ W'.cell? ⟨g, o + ts.length * 4 + 1, none⟩ = some (.string te.name) ∧ W'.cell? ⟨g, o + ts.length * 4 + 2, none⟩ = some (.int .i64 te.index) ∧ W'.cell? ⟨g, o + ts.length * 4 + 3, none⟩ = some (.slice A' te.args.length c')) ∧ (W'.cell? ⟨w.heap.size + 1, 0, none⟩ = some (.int .i64 kb) ∧ W'.cell? ⟨w.heap.size + 1, 1, none⟩ = some (.string nb) ∧ W'.cell? ⟨w.heap.size + 1, 2, none⟩ = some (.int .i64 ib) ∧ W'.cell? ⟨w.heap.size + 1, 3, none⟩ = some (.slice Ab lb cb)) ∧ W'.cell? ⟨w.heap.size + 1 + 1 + 1, 3, none⟩ = some (.slice A ts.length c)) W') := Lib.hid (fun W' hb' hq => by
          have hc : ∀ (b i : Nat), b < wb.heap.size → W'.cell? ⟨b, i, none⟩ = wr.cell? ⟨b, i, none⟩ := fun b i hb => (hb'.cell (p := ⟨b, i, none⟩) hb).trans (hbwb.cell (p := ⟨b, i, none⟩) hb).symm
          exact ⟨hb', ⟨(hc _ _ (by omega)).trans y0, (hc _ _ (by omega)).trans y1, (hc _ _ (by omega)).trans y2, (hc _ _ (by omega)).trans y3⟩, ⟨(hc _ _ (by omega)).trans e0, (hc _ _ (by omega)).trans e1, (hc _ _ (by omega)).trans e2, (hc _ _ (by omega)).trans e3⟩, ⟨(hc _ _ (by omega)).trans yb0, (hc _ _ (by omega)).trans yb1, (hc _ _ (by omega)).trans yb2, (hc _ _ (by omega)).trans yb3⟩, hq⟩)
        go_wp2
        clear y0 y1 y2 y3 e0 e1 e2 e3
        refine wp_region_ord (fun W' : World => Below wb.heap.size wb W' ∧ (W'.cell? ⟨w.heap.size, 0, none⟩ = some (.int .i64 k) ∧ W'.cell? ⟨w.heap.size, 1, none⟩ = some (.string nm) ∧ W'.cell? ⟨w.heap.size, 2, none⟩ = some (.int .i64 (ix)) ∧ W'.cell? ⟨w.heap.size, 3, none⟩ = some (.slice (some ⟨g, o, none⟩) m c0)) ∧ (W'.cell? ⟨g, o + ts.length * 4, none⟩ = some (.int .i64 te.kind) ∧ W'.cell? ⟨g, o + ts.length * 4 + 1, none⟩ = some (.string te.name) ∧ W'.cell? ⟨g, o + ts.length * 4 + 2, none⟩ = some (.int .i64 te.index) ∧ W'.cell? ⟨g, o + ts.length * 4 + 3, none⟩ = some (.slice A' te.args.length c')) ∧ (W'.cell? ⟨w.heap.size + 1, 0, none⟩ = some (.int .i64 kb) ∧ W'.cell? ⟨w.heap.size + 1, 1, none⟩ = some (.string nb) ∧ W'.cell? ⟨w.heap.size + 1, 2, none⟩ = some (.int .i64 ib) ∧ W'.cell? ⟨w.heap.size + 1, 3, none⟩ = some (.slice Ab lb cb)) ∧ W'.cell? ⟨w.heap.size + 1 + 1 + 1, 3, none⟩ = some (.slice A ts.length c)) 17 [(0, true), (1, true), (2, true), (3, true), (4, true), (5, true), (6, true), (7, true), (8, true), (9, true), (10, true), (11, false), (12, true), (13, false), (14, false), (15, false), (16, true)] (by kernel_rfl) (by kernel_rfl) (SKS.out _ (below_step hbwb (below_drew _)) b3) (fun hHeld => ?_)
        simp only [pickOps, List.getElem?_cons_succ, List.getElem?_cons_zero, List.drop_succ_cons, List.drop_zero]
        iterate 11 (refine wpOrd_take (v := ?_) (fun _ _ _ h => h) (Or.inl ⟨by rfl, ?_⟩) (by assumption) ?_; rotate_left; (focus (intro w hSw; (try dsimp only at hSw); go_simp; (try with_reducible rfl))); (try simp only [Act.put, List.setIfInBounds_toArray, List.set_cons_zero, List.set_cons_succ]))
        refine wpOrd_do (fun K hK => ?_)
        go_simp
        go_at_call 79
        refine (HBND.out _).mono ?_
        rintro e w3 ⟨rfl, hb3⟩
        have hbq3 : Below wr.heap.size wr w3 := below_step (below_drew _) hb3
        have hs3 := hbq3.size
        have q33 : w3.cell? ⟨w.heap.size + 1 + 1 + 1, 3, none⟩ = some (.slice A ts.length c) := (hbq3.cell (p := ⟨w.heap.size + 1 + 1 + 1, 3, none⟩) hltt).trans b3
        clear hb3
        refine hK.out _ _ (SKS.out _ (below_step hbwb hbq3) q33) (fun hHeld => ?_)
        clear hK K
        (try simp only [Act.put, List.setIfInBounds_toArray, List.set_cons_zero, List.set_cons_succ])
        iterate 1 (refine wpOrd_take (v := ?_) (fun _ _ _ h => h) (Or.inl ⟨by rfl, ?_⟩) (by assumption) ?_; rotate_left; (focus (intro w hSw; (try dsimp only at hSw); go_simp; (try with_reducible rfl))); (try simp only [Act.put, List.setIfInBounds_toArray, List.set_cons_zero, List.set_cons_succ]))
        refine wpOrd_do (fun K hK => ?_)
        go_simp
        go_at_call 67
        refine (IH.out te _ P _ _ (by omega) (HTE.out.below hbq3 (fun b hb => by have := HP.out b hb; omega)) (HBY.out.below (below_step hbwr hbq3) HP.out) (fun b hb => by have := HP.out b hb; omega) HNJ.out HOJ.out (by omega) (by omega)).mono ?_
        rintro e w4 ⟨A1, C1, rfl, hty1, hb4⟩
        have tok4 : True := trivial
        have HB4 := Lib.hid (below_step hbq3 hb4)
        generalize te.repl (fSub b) (d + bq) = t1 at *
        have HTY := Lib.hid (IsTyP.keep (P' := fun b => P b ∨ (wr.heap.size ≤ b ∧ b < w4.heap.size)) (fun _ _ => rfl) (fun b h => h.imp id (fun h => ⟨by omega, h.2⟩)) hty1)
        have hs4 := HB4.out.size
        have hlt4 : w.heap.size + 1 + 1 + 1 < w4.heap.size := by omega
        have ht4 := (HB4.out.block (w.heap.size + 1 + 1 + 1) hltt).trans HA.out.1
        have q43 : w4.cell? ⟨w.heap.size + 1 + 1 + 1, 3, none⟩ = some (.slice A ts.length c) := by rw [cell_of_row w4 (w.heap.size + 1 + 1 + 1) 3 _ _ _ ht4]; rfl
        obtain ⟨xs, hown4, hel4⟩ := HA.out.acc4 HPT.out HB4.out (.cells #[.int .i64 t1.kind, .string t1.name, .int .i64 t1.index, .slice A1 t1.args.length C1] 25)
        have HEL := Lib.hid hel4
        clear hel4 hty1 hb4
        refine hK.out _ _ (SKS.out _ (below_step hbwb HB4.out) q43) (fun hHeld => ?_)
        clear hK K
        (try simp only [Act.put, List.setIfInBounds_toArray, List.set_cons_zero, List.set_cons_succ])
        refine wpOrd_do (fun K hK => ?_)
        go_simp
        refine hK.out _ _ (SKS.out _ (below_step (below_step hbwb HB4.out) (below_new _ _)) (by rw [Below.cell (below_new _ _) (show w.heap.size + 1 + 1 + 1 < _ by omega)]; exact q43)) (fun hHeld => ?_)
        clear hK K
        (try simp only [Act.put, List.setIfInBounds_toArray, List.set_cons_zero, List.set_cons_succ])
        refine wpOrd_do (fun K hK => ?_)
        first
        | (have _t := tok4; refine step_append_rd _ ?_ (.tmp 37) (.tmp 50) _ ?_ (w.heap.size + 1 + 1 + 1 + 1) 25 i0 (.agg #[.int .i64 0, .string ⟨#[]⟩, .int .i64 0, .slice none 0 0]) 4 56 Tryd.underlying23 Hi0.out HI.out.1 HI.out.2.1 HI.out.2.2 rfl ?_ (.slice A ts.length c) ts.length xs ?_ ?_ (w4.heap.size + 1) (some ⟨w4.heap.size, 0, none⟩) 1 1 [.int .i64 t1.kind, .string t1.name, .int .i64 t1.index, .slice A1 t1.args.length C1] ?_ ?_ ?_ ?_ ?_ ?_; rfl; rfl; omega; rfl; exact hown4; rfl; exact Rd.blk (cs := #[.int .i64 t1.kind, .string t1.name, .int .i64 t1.index, .slice A1 t1.args.length C1]) (blk_new w4 _) rfl (by omega); exact (by simp [Value.oneCell']); omega; go_size; intro v5 w5 hown5 hg5 hat5
           have hs5 := hg5.size
           have ht5 := (hg5.block (w.heap.size + 1 + 1 + 1) (by simp; omega) (fun e => by have := HOG.out (w.heap.size + 1 + 1 + 1) e.symm; omega)).trans (blk_old ht4)
           have q3 : w5.cell? ⟨w.heap.size + 1 + 1 + 1, 3, none⟩ = some (.slice A ts.length c) := by rw [cell_of_row w5 (w.heap.size + 1 + 1 + 1) 3 _ _ _ ht5]; rfl
           have q4 : w5.frozen? ⟨w.heap.size + 1 + 1 + 1, 3, none⟩ = false := by simp [World.frozen?, ht5]
           obtain ⟨A5, c5, rfl⟩ : ∃ A c, v5 = .slice A (ts.length + 1) c := by
             rcases hown5.2 with ⟨_, h0⟩ | ⟨g, cap, cur, rfl, _⟩
             · omega
             · exact ⟨_, _, rfl⟩
           have HFIN := Lib.hid (HA.out.round HPT.out (by omega) HB4.out HTY.out HEL.out hown4 hown5 hg5 hat5)
           have HBW5 := Lib.hid (Below.grown (below_step (below_step hbwb HB4.out) (below_new w4 _)) hg5 (by have := (below_step hbwb HB4.out).size; simp; omega) (fun k hk => by have := HOG.out k hk; omega))
           clear hown5 hg5 hat5 ht5)
        refine hK.out _ _ (SKS.out _ HBW5.out q3) (fun hHeld => ?_)
        clear hK K
        (try simp only [Act.put, List.setIfInBounds_toArray, List.set_cons_zero, List.set_cons_succ])
        iterate 1 (refine wpOrd_take (v := ?_) (fun _ _ _ h => h) (Or.inl ⟨by rfl, ?_⟩) (by assumption) ?_; rotate_left; (focus (intro w hSw; (try dsimp only at hSw); go_simp; (try with_reducible rfl))); (try simp only [Act.put, List.setIfInBounds_toArray, List.set_cons_zero, List.set_cons_succ]))
        refine wpOrd_end ?_
        clear HEL HB4 HTY hown4 q43 ht4 HA
        go_wp2
        go_roundw
        case rel => exact ⟨ts.length + 1, by omega, by go_num, Lib.hid ⟨_, _, by simp, HTK.out, HFIN.out⟩⟩
        case measure => simp [intOf]; omega
      · obtain ⟨Av, cv, rfl⟩ := hbp.2.2.form
        have hjl : ts.length = m := by omega
        have htt : ts = Ty.repls (fSub b) k args 0 d := by rw [hts, hjl, ← HLN.out, List.take_length]
        have hrr : wr.heap[w.heap.size + 1 + 1]? = some (.cells #[.int .i64 0, .string ⟨#[]⟩, .int .i64 0, .slice none 0 0] 25 (0, 0)) := (hbwb.block _ (by omega)).trans HRB.out
        obtain ⟨⟨r0, r1, r2, r3⟩, f0, f1, f2, f3⟩ := box_frozen hrr
        obtain ⟨y0, y1, y2, y3⟩ := hbp.cell0
        obtain ⟨⟨_, _, _, yt3⟩, _⟩ := box_frozen HTB0.out
        have HFB := Lib.hid (sub_fin (T := T) (nm := nm) (show w.heap.size ≤ w.heap.size + 1 + 1 by omega) HP.out hbwr (by rw [htt]; exact HEQ.out) rfl hbp.2.2.isTylP (fun b hb => by
          rcases hb with h | h
          · exact .inl h
          · exact .inr ⟨by omega, h.2⟩) hrr)
        clear hbp hrr hts htt hjl
        go_wp2
        generalize hWF : (((wr.setCell _ _).setCell _ _).setCell _ _).setCell _ _ = WF
        obtain ⟨hfin, z0, z1, z2, z3⟩ := HFB.out WF hWF.symm
        clear hWF
        exact bodyPost_ret (v := .agg #[.int .i64 k, .string nm, .int .i64 (ix), .slice Av ts.length cv]) (by simp [results, Tryd.results67, go_sem, z0, z1, z2, z3]) rfl hfin.out
set_option maxRecDepth 20000 in
set_option maxHeartbeats 8000000 in
theorem c_rinst (ls : List Ty) (Al : Option Addr) (ll cl : Nat) (hll : ls.length = ll) (N : Nat) : ∀ (t : Ty) (d : Int) (P : Nat → Prop) (w : World) (v : Value), t.size ≤ N → IsTyP w P t v → IsTylP w P ls (.slice Al ll cl) → (∀ b, P b → b < w.heap.size) → t.nar → t.ok → 0 ≤ d → d + t.depth ≤ 2 ^ 61 →
    Calls Tryd.prog 69 #[v, .slice Al ll cl, .int .i64 d] w (SubR (t.repl (fInst ls) d) P w) := by
  induction N with
  | zero => intro t d P w v h; have := t.size_pos; omega
  | succ N ih =>
  intro t d P w v hN hty hby hP hnar hok hd0 hd1
  obtain ⟨A0, c0, rfl, hl⟩ := hty.args_
  have HV := Lib.hid hl
  rw [Ty.ok_eq] at hok
  rw [Ty.nar_eq] at hnar
  rw [Ty.size_eq] at hN
  rw [Ty.depth_eq] at hd1
  obtain ⟨hk, hix, hoks⟩ := hok
  obtain ⟨hn40, hnars⟩ := hnar
  have HOKS := Lib.hid hoks
  have HNAR := Lib.hid hnars
  have HP := Lib.hid hP
  have HBY := Lib.hid hby
  have IH := Lib.hid ih
  unfold inI at hix
  clear ih hty hl hk hoks hnars hP hby
  have HLL := Lib.hid hll
  clear hll
  have HR1 : Hid (∀ (j : Nat) (hj : j < ls.length), t.kind = 5 → t.index = d + j → t.repl (fInst ls) d = ls[j]) := Lib.hid (fun j hj hk h => Ty.repl_var hk (by unfold fInst; rw [if_pos (by omega), show (t.index - d).toNat = j by omega, List.getElem?_eq_getElem hj]))
  have HR2 := Lib.hid (fun (hk : t.kind = 5) (h : d ≤ t.index) (h2 : ls.length ≤ (t.index - d).toNat) => Ty.repl_idx (f := fInst ls) (i := t.index) hk (by unfold fInst; rw [if_pos h, List.getElem?_eq_none h2]))
  have HR3 := Lib.hid (fun (hk : t.kind = 5) (h : ¬ d ≤ t.index) => Ty.repl_idx (f := fInst ls) (i := t.index) hk (by unfold fInst; rw [if_neg h]))
  have HR4 := Lib.hid (fun (hk : ¬ t.kind = 5) => Ty.repl_other (f := fInst ls) (d := d) hk)
  generalize t.repl (fInst ls) d = T at *
  generalize t.kind = k, t.name = nm, t.index = ix, t.args = args at *
  generalize hln : args.length = m at *
  have HLN := Lib.hid hln
  clear hln
  by_cases hk5 : k = 5
  · subst hk5
    by_cases hd : d ≤ ix
    · obtain ⟨q, hq⟩ := Int.eq_ofNat_of_zero_le (show 0 ≤ ix - d by omega)
      have hw1 : IntKind.i64.wrap (ix - d) = (q : Int) := by rw [IntWalk.i64_in _ (by omega), hq]
      by_cases hd2 : q < ll
      · obtain ⟨g, o, A', c', hj', rfl, hg1, e0, e1, e2, e3, ht⟩ := HBY.out.at_ (w' := w) (fun _ _ => rfl) hd2
        have HEQ := Lib.hid (HR1.out q hj' rfl (by omega))
        have HTE := Lib.hid ht
        clear HR1 HR2 HR3 HR4 ht
        generalize ls[q] = te at *
        have hgw := HP.out g hg1
        have hq0 : (0 : Int) ≤ (q : Int) := by omega
        have hql : (q : Int) < (ll : Int) := by omega
        have HX : Hid (∀ W : World, Below w.heap.size w W → SubR T P w (.returned (.agg #[.int .i64 te.kind, .string te.name, .int .i64 te.index, .slice A' te.args.length c'])) W) := Lib.hid (fun W hbW => by
          rw [HEQ.out]
          exact ⟨A', c', rfl, (HTE.out.below hbW HP.out).keep (fun _ _ => rfl) (fun b hb => .inl hb), hbW⟩)
        clear HEQ HTE
        generalize te.kind = kb, te.name = nb, te.index = ib, te.args.length = lb at *
        clear hq
        go_enter Tryd.func69, Tryd.ntmps69
        go_wp2
        go_returns
        exact HX.out _ (below_step (below_new _ _) (below_new _ _))
      · have HEQ := Lib.hid (HR2.out rfl hd (by rw [HLL.out, hq]; simp; omega))
        have hql : ¬ (q : Int) < (ll : Int) := by omega
        clear HR1 HR2 HR3 HR4 hq
        have HX0 := Lib.hid (three_boxes w 5 nm ix A0 m c0 5 ix nm)
        go_enter Tryd.func69, Tryd.ntmps69
        go_wp2
        generalize hW0 : ((w.alloc _).alloc _).alloc _ = W0
        obtain ⟨wb, hbb, hsb, htb, hrb, hbl0⟩ := HX0.out W0 hW0.symm
        have HBP0 : Hid (BP P (w.heap.size + 1 + 1) wb W0 5 nm ix (.slice none 0 0) []) := Lib.hid (BP.start hbl0.1 (below_of_grown0 hbl0.2.1))
        have HRB := Lib.hid hrb
        have HTB := Lib.hid htb
        have HPT : Hid (∀ b, P b → b < w.heap.size + 1 + 1) := Lib.hid (fun b hb => by have := HP.out b hb; omega)
        clear hW0 HX0 hbl0 hrb htb
        go_loopw [8] (fun i wr => ∃ j : Nat, j ≤ m ∧ i = .int .i64 j ∧ Hid (∃ v ts, ts.length = j ∧ ts = Ty.repls (fInst ls) 5 (args.take j) 0 d ∧ BP P (w.heap.size + 1 + 1) wb wr 5 nm ix v ts)) (fun i _ => m - (intOf i).toNat)
        case atStart => exact ⟨0, by omega, rfl, Lib.hid ⟨_, [], rfl, by simp [Ty.repls], HBP0.out⟩⟩
        case round =>
          obtain ⟨j, hj, rfl, HBL⟩ := hrel
          obtain ⟨v, ts, hlen, hts, hbp⟩ := HBL.out
          subst hlen
          have hbwb := hbp.2.1
          have hbwr : Below w.heap.size w wr := hbb.trans (hbwb.mono hbb.size)
          have hltt0 := blk_lt' hbp.1
          have HTB0 := Lib.hid ((hbwb.block w.heap.size (by omega)).trans HTB.out)
          clear HBL HBP0
          by_cases hjn : ts.length < m
          · obtain ⟨g, o, A', c', hj', rfl, hg1, e0, e1, e2, e3, ht⟩ := HV.out.at_ (fun b hb => hbwr.block b (HP.out b hb)) hjn
            have hsg := Ty.size_get ts.length hj'
            have hdg := Ty.depth_get ts.length hj'
            have HTK : Hid (ts ++ [args[ts.length].repl (fInst ls) (d + bindI 5 ts.length)] = Ty.repls (fInst ls) 5 (args.take (ts.length + 1)) 0 d) := Lib.hid (by rw [Ty.repls_take _ _ _ _ _ hj', ← hts, Nat.zero_add])
            have HNJ := Lib.hid (Ty.nar_get HNAR.out ts.length hj')
            have HOJ := Lib.hid (Ty.ok_get HOKS.out ts.length hj')
            have HTE := Lib.hid ht
            have hgw := HP.out g hg1
            have hs0 := hbwr.size
            have hbq0 := bindI_le 5 ts.length
            have HBND := Lib.hid (fun (W : World) => c_rbinders 5 nm ix (.slice (some ⟨g, o, none⟩) m c0) ts.length W)
            have hal := hbp
            clear ht hts hbp
            generalize args[ts.length] = te at *
            generalize bindI 5 ts.length = bq at *
            obtain ⟨hbq0, hbq1⟩ := hbq0
            have hwrap : IntKind.i64.wrap (d + bq) = d + bq := IntWalk.i64_in _ (by omega)
            obtain ⟨⟨y0, y1, y2, y3⟩, _⟩ := box_frozen HTB0.out
            have hj0 : (0 : Int) ≤ (ts.length : Int) := by omega
            have hjm : (ts.length : Int) < (m : Int) := by omega
            skip
            have HA := Lib.hid hal
            obtain ⟨A, c, rfl⟩ := hal.2.2.form
            have hltt := blk_lt' hal.1
            have hsgw := hal.2.1.size
            have HOG := Lib.hid hal.2.2.own_ge
            have b3 : wr.cell? ⟨w.heap.size + 1 + 1, 3, none⟩ = some (.slice A ts.length c) := hal.cell0.2.2.2
            obtain ⟨i0, hi0, hz0, hz1, hz2⟩ := info_parts info_Type
            have HI : Hid (i0.zero = some (.agg #[.int .i64 0, .string ⟨#[]⟩, .int .i64 0, .slice none 0 0]) ∧ i0.size = 4 ∧ i0.bytes = 56) := Lib.hid ⟨hz0, hz1, hz2⟩
            clear hz0 hz1 hz2
            have Hi0 := Lib.hid hi0
            clear hi0 hal
            have SKS : Hid (∀ W' : World, Below wb.heap.size wb W' → W'.cell? ⟨w.heap.size + 1 + 1, 3, none⟩ = some (.slice A ts.length c) → (fun W' : World => Below wb.heap.size wb W' ∧ (W'.cell? ⟨w.heap.size, 0, none⟩ = some (.int .i64 5) ∧ W'.cell? ⟨w.heap.size, 1, none⟩ = some (.string nm) ∧ W'.cell? ⟨w.heap.size, 2, none⟩ = some (.int .i64 (ix)) ∧ W'.cell? ⟨w.heap.size, 3, none⟩ = some (.slice (some ⟨g, o, none⟩) m c0)) ∧ (W'.cell? ⟨g, o + ts.length * 4, none⟩ = some (.int .i64 te.kind) ∧ W'.cell? ⟨g, o + ts.length * 4 + 1, none⟩ = some (.string te.name) ∧ W'.cell? ⟨g, o + ts.length * 4 + 2, none⟩ = some (.int .i64 te.index) ∧ W'.cell? ⟨g, o + ts.length * 4 + 3, none⟩ = some (.slice A' te.args.length c')) ∧ (True) ∧ W'.cell? ⟨w.heap.size + 1 + 1, 3, none⟩ = some (.slice A ts.length c)) W') := Lib.hid (fun W' hb' hq => by
              have hc : ∀ (b i : Nat), b < wb.heap.size → W'.cell? ⟨b, i, none⟩ = wr.cell? ⟨b, i, none⟩ := fun b i hb => (hb'.cell (p := ⟨b, i, none⟩) hb).trans (hbwb.cell (p := ⟨b, i, none⟩) hb).symm
              exact ⟨hb', ⟨(hc _ _ (by omega)).trans y0, (hc _ _ (by omega)).trans y1, (hc _ _ (by omega)).trans y2, (hc _ _ (by omega)).trans y3⟩, ⟨(hc _ _ (by omega)).trans e0, (hc _ _ (by omega)).trans e1, (hc _ _ (by omega)).trans e2, (hc _ _ (by omega)).trans e3⟩, trivial, hq⟩)
            go_wp2
            clear y0 y1 y2 y3 e0 e1 e2 e3
            refine wp_region_ord (fun W' : World => Below wb.heap.size wb W' ∧ (W'.cell? ⟨w.heap.size, 0, none⟩ = some (.int .i64 5) ∧ W'.cell? ⟨w.heap.size, 1, none⟩ = some (.string nm) ∧ W'.cell? ⟨w.heap.size, 2, none⟩ = some (.int .i64 (ix)) ∧ W'.cell? ⟨w.heap.size, 3, none⟩ = some (.slice (some ⟨g, o, none⟩) m c0)) ∧ (W'.cell? ⟨g, o + ts.length * 4, none⟩ = some (.int .i64 te.kind) ∧ W'.cell? ⟨g, o + ts.length * 4 + 1, none⟩ = some (.string te.name) ∧ W'.cell? ⟨g, o + ts.length * 4 + 2, none⟩ = some (.int .i64 te.index) ∧ W'.cell? ⟨g, o + ts.length * 4 + 3, none⟩ = some (.slice A' te.args.length c')) ∧ (True) ∧ W'.cell? ⟨w.heap.size + 1 + 1, 3, none⟩ = some (.slice A ts.length c)) 17 [(0, true), (1, true), (2, true), (3, true), (4, true), (5, true), (6, true), (7, true), (8, true), (9, true), (10, true), (11, false), (12, true), (13, false), (14, false), (15, false), (16, true)] (by kernel_rfl) (by kernel_rfl) (SKS.out _ (below_step hbwb (below_drew _)) b3) (fun hHeld => ?_)
            simp only [pickOps, List.getElem?_cons_succ, List.getElem?_cons_zero, List.drop_succ_cons, List.drop_zero]
            iterate 11 (refine wpOrd_take (v := ?_) (fun _ _ _ h => h) (Or.inl ⟨by rfl, ?_⟩) (by assumption) ?_; rotate_left; (focus (intro w hSw; (try dsimp only at hSw); go_simp; (try with_reducible rfl))); (try simp only [Act.put, List.setIfInBounds_toArray, List.set_cons_zero, List.set_cons_succ]))
            refine wpOrd_do (fun K hK => ?_)
            go_simp
            go_at_call 79
            refine (HBND.out _).mono ?_
            rintro e w3 ⟨rfl, hb3⟩
            have hbq3 : Below wr.heap.size wr w3 := below_step (below_drew _) hb3
            have hs3 := hbq3.size
            have q33 : w3.cell? ⟨w.heap.size + 1 + 1, 3, none⟩ = some (.slice A ts.length c) := (hbq3.cell (p := ⟨w.heap.size + 1 + 1, 3, none⟩) hltt).trans b3
            clear hb3
            refine hK.out _ _ (SKS.out _ (below_step hbwb hbq3) q33) (fun hHeld => ?_)
            clear hK K
            (try simp only [Act.put, List.setIfInBounds_toArray, List.set_cons_zero, List.set_cons_succ])
            iterate 1 (refine wpOrd_take (v := ?_) (fun _ _ _ h => h) (Or.inl ⟨by rfl, ?_⟩) (by assumption) ?_; rotate_left; (focus (intro w hSw; (try dsimp only at hSw); go_simp; (try with_reducible rfl))); (try simp only [Act.put, List.setIfInBounds_toArray, List.set_cons_zero, List.set_cons_succ]))
            refine wpOrd_do (fun K hK => ?_)
            go_simp
            go_at_call 69
            refine (IH.out te _ P _ _ (by omega) (HTE.out.below hbq3 (fun b hb => by have := HP.out b hb; omega)) (HBY.out.below (below_step hbwr hbq3) HP.out) (fun b hb => by have := HP.out b hb; omega) HNJ.out HOJ.out (by omega) (by omega)).mono ?_
            rintro e w4 ⟨A1, C1, rfl, hty1, hb4⟩
            have tok4 : True := trivial
            have HB4 := Lib.hid (below_step hbq3 hb4)
            generalize te.repl (fInst ls) (d + bq) = t1 at *
            have HTY := Lib.hid (IsTyP.keep (P' := fun b => P b ∨ (wr.heap.size ≤ b ∧ b < w4.heap.size)) (fun _ _ => rfl) (fun b h => h.imp id (fun h => ⟨by omega, h.2⟩)) hty1)
            have hs4 := HB4.out.size
            have hlt4 : w.heap.size + 1 + 1 < w4.heap.size := by omega
            have ht4 := (HB4.out.block (w.heap.size + 1 + 1) hltt).trans HA.out.1
            have q43 : w4.cell? ⟨w.heap.size + 1 + 1, 3, none⟩ = some (.slice A ts.length c) := by rw [cell_of_row w4 (w.heap.size + 1 + 1) 3 _ _ _ ht4]; rfl
            obtain ⟨xs, hown4, hel4⟩ := HA.out.acc4 HPT.out HB4.out (.cells #[.int .i64 t1.kind, .string t1.name, .int .i64 t1.index, .slice A1 t1.args.length C1] 25)
            have HEL := Lib.hid hel4
            clear hel4 hty1 hb4
            refine hK.out _ _ (SKS.out _ (below_step hbwb HB4.out) q43) (fun hHeld => ?_)
            clear hK K
            (try simp only [Act.put, List.setIfInBounds_toArray, List.set_cons_zero, List.set_cons_succ])
            refine wpOrd_do (fun K hK => ?_)
            go_simp
            refine hK.out _ _ (SKS.out _ (below_step (below_step hbwb HB4.out) (below_new _ _)) (by rw [Below.cell (below_new _ _) (show w.heap.size + 1 + 1 < _ by omega)]; exact q43)) (fun hHeld => ?_)
            clear hK K
            (try simp only [Act.put, List.setIfInBounds_toArray, List.set_cons_zero, List.set_cons_succ])
            refine wpOrd_do (fun K hK => ?_)
            first
            | (have _t := tok4; refine step_append_rd _ ?_ (.tmp 44) (.tmp 57) _ ?_ (w.heap.size + 1 + 1 + 1) 25 i0 (.agg #[.int .i64 0, .string ⟨#[]⟩, .int .i64 0, .slice none 0 0]) 4 56 Tryd.underlying23 Hi0.out HI.out.1 HI.out.2.1 HI.out.2.2 rfl ?_ (.slice A ts.length c) ts.length xs ?_ ?_ (w4.heap.size + 1) (some ⟨w4.heap.size, 0, none⟩) 1 1 [.int .i64 t1.kind, .string t1.name, .int .i64 t1.index, .slice A1 t1.args.length C1] ?_ ?_ ?_ ?_ ?_ ?_; rfl; rfl; omega; rfl; exact hown4; rfl; exact Rd.blk (cs := #[.int .i64 t1.kind, .string t1.name, .int .i64 t1.index, .slice A1 t1.args.length C1]) (blk_new w4 _) rfl (by omega); exact (by simp [Value.oneCell']); omega; go_size; intro v5 w5 hown5 hg5 hat5
               have hs5 := hg5.size
               have ht5 := (hg5.block (w.heap.size + 1 + 1) (by simp; omega) (fun e => by have := HOG.out (w.heap.size + 1 + 1) e.symm; omega)).trans (blk_old ht4)
               have q3 : w5.cell? ⟨w.heap.size + 1 + 1, 3, none⟩ = some (.slice A ts.length c) := by rw [cell_of_row w5 (w.heap.size + 1 + 1) 3 _ _ _ ht5]; rfl
               have q4 : w5.frozen? ⟨w.heap.size + 1 + 1, 3, none⟩ = false := by simp [World.frozen?, ht5]
               obtain ⟨A5, c5, rfl⟩ : ∃ A c, v5 = .slice A (ts.length + 1) c := by
                 rcases hown5.2 with ⟨_, h0⟩ | ⟨g, cap, cur, rfl, _⟩
                 · omega
                 · exact ⟨_, _, rfl⟩
               have HFIN := Lib.hid (HA.out.round HPT.out (by omega) HB4.out HTY.out HEL.out hown4 hown5 hg5 hat5)
               have HBW5 := Lib.hid (Below.grown (below_step (below_step hbwb HB4.out) (below_new w4 _)) hg5 (by have := (below_step hbwb HB4.out).size; simp; omega) (fun k hk => by have := HOG.out k hk; omega))
               clear hown5 hg5 hat5 ht5)
            refine hK.out _ _ (SKS.out _ HBW5.out q3) (fun hHeld => ?_)
            clear hK K
            (try simp only [Act.put, List.setIfInBounds_toArray, List.set_cons_zero, List.set_cons_succ])
            iterate 1 (refine wpOrd_take (v := ?_) (fun _ _ _ h => h) (Or.inl ⟨by rfl, ?_⟩) (by assumption) ?_; rotate_left; (focus (intro w hSw; (try dsimp only at hSw); go_simp; (try with_reducible rfl))); (try simp only [Act.put, List.setIfInBounds_toArray, List.set_cons_zero, List.set_cons_succ]))
            refine wpOrd_end ?_
            clear HEL HB4 HTY hown4 q43 ht4 HA
            go_wp2
            go_roundw
            case rel => exact ⟨ts.length + 1, by omega, by go_num, Lib.hid ⟨_, _, by simp, HTK.out, HFIN.out⟩⟩
            case measure => simp [intOf]; omega
          · obtain ⟨Av, cv, rfl⟩ := hbp.2.2.form
            have hjl : ts.length = m := by omega
            have htt : ts = Ty.repls (fInst ls) 5 args 0 d := by rw [hts, hjl, ← HLN.out, List.take_length]
            have hrr : wr.heap[w.heap.size + 1]? = some (.cells #[.int .i64 0, .string ⟨#[]⟩, .int .i64 0, .slice none 0 0] 25 (0, 0)) := (hbwb.block _ (by omega)).trans HRB.out
            obtain ⟨⟨r0, r1, r2, r3⟩, f0, f1, f2, f3⟩ := box_frozen hrr
            obtain ⟨y0, y1, y2, y3⟩ := hbp.cell0
            obtain ⟨⟨_, _, _, yt3⟩, _⟩ := box_frozen HTB0.out
            have HFB := Lib.hid (sub_fin (T := T) (nm := nm) (show w.heap.size ≤ w.heap.size + 1 by omega) HP.out hbwr (by rw [htt]; exact HEQ.out) rfl hbp.2.2.isTylP (fun b hb => by
              rcases hb with h | h
              · exact .inl h
              · exact .inr ⟨by omega, h.2⟩) hrr)
            clear hbp hrr hts htt hjl
            go_wp2
            generalize hWF : (((wr.setCell _ _).setCell _ _).setCell _ _).setCell _ _ = WF
            obtain ⟨hfin, z0, z1, z2, z3⟩ := HFB.out WF hWF.symm
            clear hWF
            exact bodyPost_ret (v := .agg #[.int .i64 5, .string nm, .int .i64 (ix), .slice Av ts.length cv]) (by simp [results, Tryd.results69, go_sem, z0, z1, z2, z3]) rfl hfin.out
    · have HEQ := Lib.hid (HR3.out rfl hd)
      clear HR1 HR2 HR3 HR4
      have HX0 := Lib.hid (three_boxes w 5 nm ix A0 m c0 5 ix nm)
      go_enter Tryd.func69, Tryd.ntmps69
      go_wp2
      generalize hW0 : ((w.alloc _).alloc _).alloc _ = W0
      obtain ⟨wb, hbb, hsb, htb, hrb, hbl0⟩ := HX0.out W0 hW0.symm
      have HBP0 : Hid (BP P (w.heap.size + 1 + 1) wb W0 5 nm ix (.slice none 0 0) []) := Lib.hid (BP.start hbl0.1 (below_of_grown0 hbl0.2.1))
      have HRB := Lib.hid hrb
      have HTB := Lib.hid htb
      have HPT : Hid (∀ b, P b → b < w.heap.size + 1 + 1) := Lib.hid (fun b hb => by have := HP.out b hb; omega)
      clear hW0 HX0 hbl0 hrb htb
      go_loopw [8] (fun i wr => ∃ j : Nat, j ≤ m ∧ i = .int .i64 j ∧ Hid (∃ v ts, ts.length = j ∧ ts = Ty.repls (fInst ls) 5 (args.take j) 0 d ∧ BP P (w.heap.size + 1 + 1) wb wr 5 nm ix v ts)) (fun i _ => m - (intOf i).toNat)
      case atStart => exact ⟨0, by omega, rfl, Lib.hid ⟨_, [], rfl, by simp [Ty.repls], HBP0.out⟩⟩
      case round =>
        obtain ⟨j, hj, rfl, HBL⟩ := hrel
        obtain ⟨v, ts, hlen, hts, hbp⟩ := HBL.out
        subst hlen
        have hbwb := hbp.2.1
        have hbwr : Below w.heap.size w wr := hbb.trans (hbwb.mono hbb.size)
        have hltt0 := blk_lt' hbp.1
        have HTB0 := Lib.hid ((hbwb.block w.heap.size (by omega)).trans HTB.out)
        clear HBL HBP0
        by_cases hjn : ts.length < m
        · obtain ⟨g, o, A', c', hj', rfl, hg1, e0, e1, e2, e3, ht⟩ := HV.out.at_ (fun b hb => hbwr.block b (HP.out b hb)) hjn
          have hsg := Ty.size_get ts.length hj'
          have hdg := Ty.depth_get ts.length hj'
          have HTK : Hid (ts ++ [args[ts.length].repl (fInst ls) (d + bindI 5 ts.length)] = Ty.repls (fInst ls) 5 (args.take (ts.length + 1)) 0 d) := Lib.hid (by rw [Ty.repls_take _ _ _ _ _ hj', ← hts, Nat.zero_add])
          have HNJ := Lib.hid (Ty.nar_get HNAR.out ts.length hj')
          have HOJ := Lib.hid (Ty.ok_get HOKS.out ts.length hj')
          have HTE := Lib.hid ht
          have hgw := HP.out g hg1
          have hs0 := hbwr.size
          have hbq0 := bindI_le 5 ts.length
          have HBND := Lib.hid (fun (W : World) => c_rbinders 5 nm ix (.slice (some ⟨g, o, none⟩) m c0) ts.length W)
          have hal := hbp
          clear ht hts hbp
          generalize args[ts.length] = te at *
          generalize bindI 5 ts.length = bq at *
          obtain ⟨hbq0, hbq1⟩ := hbq0
          have hwrap : IntKind.i64.wrap (d + bq) = d + bq := IntWalk.i64_in _ (by omega)
          obtain ⟨⟨y0, y1, y2, y3⟩, _⟩ := box_frozen HTB0.out
          have hj0 : (0 : Int) ≤ (ts.length : Int) := by omega
          have hjm : (ts.length : Int) < (m : Int) := by omega
          skip
          have HA := Lib.hid hal
          obtain ⟨A, c, rfl⟩ := hal.2.2.form
          have hltt := blk_lt' hal.1
          have hsgw := hal.2.1.size
          have HOG := Lib.hid hal.2.2.own_ge
          have b3 : wr.cell? ⟨w.heap.size + 1 + 1, 3, none⟩ = some (.slice A ts.length c) := hal.cell0.2.2.2
          obtain ⟨i0, hi0, hz0, hz1, hz2⟩ := info_parts info_Type
          have HI : Hid (i0.zero = some (.agg #[.int .i64 0, .string ⟨#[]⟩, .int .i64 0, .slice none 0 0]) ∧ i0.size = 4 ∧ i0.bytes = 56) := Lib.hid ⟨hz0, hz1, hz2⟩
          clear hz0 hz1 hz2
          have Hi0 := Lib.hid hi0
          clear hi0 hal
          have SKS : Hid (∀ W' : World, Below wb.heap.size wb W' → W'.cell? ⟨w.heap.size + 1 + 1, 3, none⟩ = some (.slice A ts.length c) → (fun W' : World => Below wb.heap.size wb W' ∧ (W'.cell? ⟨w.heap.size, 0, none⟩ = some (.int .i64 5) ∧ W'.cell? ⟨w.heap.size, 1, none⟩ = some (.string nm) ∧ W'.cell? ⟨w.heap.size, 2, none⟩ = some (.int .i64 (ix)) ∧ W'.cell? ⟨w.heap.size, 3, none⟩ = some (.slice (some ⟨g, o, none⟩) m c0)) ∧ (W'.cell? ⟨g, o + ts.length * 4, none⟩ = some (.int .i64 te.kind) ∧ W'.cell? ⟨g, o + ts.length * 4 + 1, none⟩ = some (.string te.name) ∧ W'.cell? ⟨g, o + ts.length * 4 + 2, none⟩ = some (.int .i64 te.index) ∧ W'.cell? ⟨g, o + ts.length * 4 + 3, none⟩ = some (.slice A' te.args.length c')) ∧ (True) ∧ W'.cell? ⟨w.heap.size + 1 + 1, 3, none⟩ = some (.slice A ts.length c)) W') := Lib.hid (fun W' hb' hq => by
            have hc : ∀ (b i : Nat), b < wb.heap.size → W'.cell? ⟨b, i, none⟩ = wr.cell? ⟨b, i, none⟩ := fun b i hb => (hb'.cell (p := ⟨b, i, none⟩) hb).trans (hbwb.cell (p := ⟨b, i, none⟩) hb).symm
            exact ⟨hb', ⟨(hc _ _ (by omega)).trans y0, (hc _ _ (by omega)).trans y1, (hc _ _ (by omega)).trans y2, (hc _ _ (by omega)).trans y3⟩, ⟨(hc _ _ (by omega)).trans e0, (hc _ _ (by omega)).trans e1, (hc _ _ (by omega)).trans e2, (hc _ _ (by omega)).trans e3⟩, trivial, hq⟩)
          go_wp2
          clear y0 y1 y2 y3 e0 e1 e2 e3
          refine wp_region_ord (fun W' : World => Below wb.heap.size wb W' ∧ (W'.cell? ⟨w.heap.size, 0, none⟩ = some (.int .i64 5) ∧ W'.cell? ⟨w.heap.size, 1, none⟩ = some (.string nm) ∧ W'.cell? ⟨w.heap.size, 2, none⟩ = some (.int .i64 (ix)) ∧ W'.cell? ⟨w.heap.size, 3, none⟩ = some (.slice (some ⟨g, o, none⟩) m c0)) ∧ (W'.cell? ⟨g, o + ts.length * 4, none⟩ = some (.int .i64 te.kind) ∧ W'.cell? ⟨g, o + ts.length * 4 + 1, none⟩ = some (.string te.name) ∧ W'.cell? ⟨g, o + ts.length * 4 + 2, none⟩ = some (.int .i64 te.index) ∧ W'.cell? ⟨g, o + ts.length * 4 + 3, none⟩ = some (.slice A' te.args.length c')) ∧ (True) ∧ W'.cell? ⟨w.heap.size + 1 + 1, 3, none⟩ = some (.slice A ts.length c)) 17 [(0, true), (1, true), (2, true), (3, true), (4, true), (5, true), (6, true), (7, true), (8, true), (9, true), (10, true), (11, false), (12, true), (13, false), (14, false), (15, false), (16, true)] (by kernel_rfl) (by kernel_rfl) (SKS.out _ (below_step hbwb (below_drew _)) b3) (fun hHeld => ?_)
          simp only [pickOps, List.getElem?_cons_succ, List.getElem?_cons_zero, List.drop_succ_cons, List.drop_zero]
          iterate 11 (refine wpOrd_take (v := ?_) (fun _ _ _ h => h) (Or.inl ⟨by rfl, ?_⟩) (by assumption) ?_; rotate_left; (focus (intro w hSw; (try dsimp only at hSw); go_simp; (try with_reducible rfl))); (try simp only [Act.put, List.setIfInBounds_toArray, List.set_cons_zero, List.set_cons_succ]))
          refine wpOrd_do (fun K hK => ?_)
          go_simp
          go_at_call 79
          refine (HBND.out _).mono ?_
          rintro e w3 ⟨rfl, hb3⟩
          have hbq3 : Below wr.heap.size wr w3 := below_step (below_drew _) hb3
          have hs3 := hbq3.size
          have q33 : w3.cell? ⟨w.heap.size + 1 + 1, 3, none⟩ = some (.slice A ts.length c) := (hbq3.cell (p := ⟨w.heap.size + 1 + 1, 3, none⟩) hltt).trans b3
          clear hb3
          refine hK.out _ _ (SKS.out _ (below_step hbwb hbq3) q33) (fun hHeld => ?_)
          clear hK K
          (try simp only [Act.put, List.setIfInBounds_toArray, List.set_cons_zero, List.set_cons_succ])
          iterate 1 (refine wpOrd_take (v := ?_) (fun _ _ _ h => h) (Or.inl ⟨by rfl, ?_⟩) (by assumption) ?_; rotate_left; (focus (intro w hSw; (try dsimp only at hSw); go_simp; (try with_reducible rfl))); (try simp only [Act.put, List.setIfInBounds_toArray, List.set_cons_zero, List.set_cons_succ]))
          refine wpOrd_do (fun K hK => ?_)
          go_simp
          go_at_call 69
          refine (IH.out te _ P _ _ (by omega) (HTE.out.below hbq3 (fun b hb => by have := HP.out b hb; omega)) (HBY.out.below (below_step hbwr hbq3) HP.out) (fun b hb => by have := HP.out b hb; omega) HNJ.out HOJ.out (by omega) (by omega)).mono ?_
          rintro e w4 ⟨A1, C1, rfl, hty1, hb4⟩
          have tok4 : True := trivial
          have HB4 := Lib.hid (below_step hbq3 hb4)
          generalize te.repl (fInst ls) (d + bq) = t1 at *
          have HTY := Lib.hid (IsTyP.keep (P' := fun b => P b ∨ (wr.heap.size ≤ b ∧ b < w4.heap.size)) (fun _ _ => rfl) (fun b h => h.imp id (fun h => ⟨by omega, h.2⟩)) hty1)
          have hs4 := HB4.out.size
          have hlt4 : w.heap.size + 1 + 1 < w4.heap.size := by omega
          have ht4 := (HB4.out.block (w.heap.size + 1 + 1) hltt).trans HA.out.1
          have q43 : w4.cell? ⟨w.heap.size + 1 + 1, 3, none⟩ = some (.slice A ts.length c) := by rw [cell_of_row w4 (w.heap.size + 1 + 1) 3 _ _ _ ht4]; rfl
          obtain ⟨xs, hown4, hel4⟩ := HA.out.acc4 HPT.out HB4.out (.cells #[.int .i64 t1.kind, .string t1.name, .int .i64 t1.index, .slice A1 t1.args.length C1] 25)
          have HEL := Lib.hid hel4
          clear hel4 hty1 hb4
          refine hK.out _ _ (SKS.out _ (below_step hbwb HB4.out) q43) (fun hHeld => ?_)
          clear hK K
          (try simp only [Act.put, List.setIfInBounds_toArray, List.set_cons_zero, List.set_cons_succ])
          refine wpOrd_do (fun K hK => ?_)
          go_simp
          refine hK.out _ _ (SKS.out _ (below_step (below_step hbwb HB4.out) (below_new _ _)) (by rw [Below.cell (below_new _ _) (show w.heap.size + 1 + 1 < _ by omega)]; exact q43)) (fun hHeld => ?_)
          clear hK K
          (try simp only [Act.put, List.setIfInBounds_toArray, List.set_cons_zero, List.set_cons_succ])
          refine wpOrd_do (fun K hK => ?_)
          first
          | (have _t := tok4; refine step_append_rd _ ?_ (.tmp 44) (.tmp 57) _ ?_ (w.heap.size + 1 + 1 + 1) 25 i0 (.agg #[.int .i64 0, .string ⟨#[]⟩, .int .i64 0, .slice none 0 0]) 4 56 Tryd.underlying23 Hi0.out HI.out.1 HI.out.2.1 HI.out.2.2 rfl ?_ (.slice A ts.length c) ts.length xs ?_ ?_ (w4.heap.size + 1) (some ⟨w4.heap.size, 0, none⟩) 1 1 [.int .i64 t1.kind, .string t1.name, .int .i64 t1.index, .slice A1 t1.args.length C1] ?_ ?_ ?_ ?_ ?_ ?_; rfl; rfl; omega; rfl; exact hown4; rfl; exact Rd.blk (cs := #[.int .i64 t1.kind, .string t1.name, .int .i64 t1.index, .slice A1 t1.args.length C1]) (blk_new w4 _) rfl (by omega); exact (by simp [Value.oneCell']); omega; go_size; intro v5 w5 hown5 hg5 hat5
             have hs5 := hg5.size
             have ht5 := (hg5.block (w.heap.size + 1 + 1) (by simp; omega) (fun e => by have := HOG.out (w.heap.size + 1 + 1) e.symm; omega)).trans (blk_old ht4)
             have q3 : w5.cell? ⟨w.heap.size + 1 + 1, 3, none⟩ = some (.slice A ts.length c) := by rw [cell_of_row w5 (w.heap.size + 1 + 1) 3 _ _ _ ht5]; rfl
             have q4 : w5.frozen? ⟨w.heap.size + 1 + 1, 3, none⟩ = false := by simp [World.frozen?, ht5]
             obtain ⟨A5, c5, rfl⟩ : ∃ A c, v5 = .slice A (ts.length + 1) c := by
               rcases hown5.2 with ⟨_, h0⟩ | ⟨g, cap, cur, rfl, _⟩
               · omega
               · exact ⟨_, _, rfl⟩
             have HFIN := Lib.hid (HA.out.round HPT.out (by omega) HB4.out HTY.out HEL.out hown4 hown5 hg5 hat5)
             have HBW5 := Lib.hid (Below.grown (below_step (below_step hbwb HB4.out) (below_new w4 _)) hg5 (by have := (below_step hbwb HB4.out).size; simp; omega) (fun k hk => by have := HOG.out k hk; omega))
             clear hown5 hg5 hat5 ht5)
          refine hK.out _ _ (SKS.out _ HBW5.out q3) (fun hHeld => ?_)
          clear hK K
          (try simp only [Act.put, List.setIfInBounds_toArray, List.set_cons_zero, List.set_cons_succ])
          iterate 1 (refine wpOrd_take (v := ?_) (fun _ _ _ h => h) (Or.inl ⟨by rfl, ?_⟩) (by assumption) ?_; rotate_left; (focus (intro w hSw; (try dsimp only at hSw); go_simp; (try with_reducible rfl))); (try simp only [Act.put, List.setIfInBounds_toArray, List.set_cons_zero, List.set_cons_succ]))
          refine wpOrd_end ?_
          clear HEL HB4 HTY hown4 q43 ht4 HA
          go_wp2
          go_roundw
          case rel => exact ⟨ts.length + 1, by omega, by go_num, Lib.hid ⟨_, _, by simp, HTK.out, HFIN.out⟩⟩
          case measure => simp [intOf]; omega
        · obtain ⟨Av, cv, rfl⟩ := hbp.2.2.form
          have hjl : ts.length = m := by omega
          have htt : ts = Ty.repls (fInst ls) 5 args 0 d := by rw [hts, hjl, ← HLN.out, List.take_length]
          have hrr : wr.heap[w.heap.size + 1]? = some (.cells #[.int .i64 0, .string ⟨#[]⟩, .int .i64 0, .slice none 0 0] 25 (0, 0)) := (hbwb.block _ (by omega)).trans HRB.out
          obtain ⟨⟨r0, r1, r2, r3⟩, f0, f1, f2, f3⟩ := box_frozen hrr
          obtain ⟨y0, y1, y2, y3⟩ := hbp.cell0
          obtain ⟨⟨_, _, _, yt3⟩, _⟩ := box_frozen HTB0.out
          have HFB := Lib.hid (sub_fin (T := T) (nm := nm) (show w.heap.size ≤ w.heap.size + 1 by omega) HP.out hbwr (by rw [htt]; exact HEQ.out) rfl hbp.2.2.isTylP (fun b hb => by
            rcases hb with h | h
            · exact .inl h
            · exact .inr ⟨by omega, h.2⟩) hrr)
          clear hbp hrr hts htt hjl
          go_wp2
          generalize hWF : (((wr.setCell _ _).setCell _ _).setCell _ _).setCell _ _ = WF
          obtain ⟨hfin, z0, z1, z2, z3⟩ := HFB.out WF hWF.symm
          clear hWF
          exact bodyPost_ret (v := .agg #[.int .i64 5, .string nm, .int .i64 (ix), .slice Av ts.length cv]) (by simp [results, Tryd.results69, go_sem, z0, z1, z2, z3]) rfl hfin.out
  · have hk5' : (k == 5) = false := by rw [beq_eq_false_iff_ne]; exact hk5
    have HEQ := Lib.hid (HR4.out hk5)
    clear HR1 HR2 HR3 HR4
    have HX0 := Lib.hid (three_boxes w k nm ix A0 m c0 k ix nm)
    go_enter Tryd.func69, Tryd.ntmps69
    go_wp2
    generalize hW0 : ((w.alloc _).alloc _).alloc _ = W0
    obtain ⟨wb, hbb, hsb, htb, hrb, hbl0⟩ := HX0.out W0 hW0.symm
    have HBP0 : Hid (BP P (w.heap.size + 1 + 1) wb W0 k nm ix (.slice none 0 0) []) := Lib.hid (BP.start hbl0.1 (below_of_grown0 hbl0.2.1))
    have HRB := Lib.hid hrb
    have HTB := Lib.hid htb
    have HPT : Hid (∀ b, P b → b < w.heap.size + 1 + 1) := Lib.hid (fun b hb => by have := HP.out b hb; omega)
    clear hW0 HX0 hbl0 hrb htb
    go_loopw [8] (fun i wr => ∃ j : Nat, j ≤ m ∧ i = .int .i64 j ∧ Hid (∃ v ts, ts.length = j ∧ ts = Ty.repls (fInst ls) k (args.take j) 0 d ∧ BP P (w.heap.size + 1 + 1) wb wr k nm ix v ts)) (fun i _ => m - (intOf i).toNat)
    case atStart => exact ⟨0, by omega, rfl, Lib.hid ⟨_, [], rfl, by simp [Ty.repls], HBP0.out⟩⟩
    case round =>
      obtain ⟨j, hj, rfl, HBL⟩ := hrel
      obtain ⟨v, ts, hlen, hts, hbp⟩ := HBL.out
      subst hlen
      have hbwb := hbp.2.1
      have hbwr : Below w.heap.size w wr := hbb.trans (hbwb.mono hbb.size)
      have hltt0 := blk_lt' hbp.1
      have HTB0 := Lib.hid ((hbwb.block w.heap.size (by omega)).trans HTB.out)
      clear HBL HBP0
      by_cases hjn : ts.length < m
      · obtain ⟨g, o, A', c', hj', rfl, hg1, e0, e1, e2, e3, ht⟩ := HV.out.at_ (fun b hb => hbwr.block b (HP.out b hb)) hjn
        have hsg := Ty.size_get ts.length hj'
        have hdg := Ty.depth_get ts.length hj'
        have HTK : Hid (ts ++ [args[ts.length].repl (fInst ls) (d + bindI k ts.length)] = Ty.repls (fInst ls) k (args.take (ts.length + 1)) 0 d) := Lib.hid (by rw [Ty.repls_take _ _ _ _ _ hj', ← hts, Nat.zero_add])
        have HNJ := Lib.hid (Ty.nar_get HNAR.out ts.length hj')
        have HOJ := Lib.hid (Ty.ok_get HOKS.out ts.length hj')
        have HTE := Lib.hid ht
        have hgw := HP.out g hg1
        have hs0 := hbwr.size
        have hbq0 := bindI_le k ts.length
        have HBND := Lib.hid (fun (W : World) => c_rbinders k nm ix (.slice (some ⟨g, o, none⟩) m c0) ts.length W)
        have hal := hbp
        clear ht hts hbp
        generalize args[ts.length] = te at *
        generalize bindI k ts.length = bq at *
        obtain ⟨hbq0, hbq1⟩ := hbq0
        have hwrap : IntKind.i64.wrap (d + bq) = d + bq := IntWalk.i64_in _ (by omega)
        obtain ⟨⟨y0, y1, y2, y3⟩, _⟩ := box_frozen HTB0.out
        have hj0 : (0 : Int) ≤ (ts.length : Int) := by omega
        have hjm : (ts.length : Int) < (m : Int) := by omega
        skip
        have HA := Lib.hid hal
        obtain ⟨A, c, rfl⟩ := hal.2.2.form
        have hltt := blk_lt' hal.1
        have hsgw := hal.2.1.size
        have HOG := Lib.hid hal.2.2.own_ge
        have b3 : wr.cell? ⟨w.heap.size + 1 + 1, 3, none⟩ = some (.slice A ts.length c) := hal.cell0.2.2.2
        obtain ⟨i0, hi0, hz0, hz1, hz2⟩ := info_parts info_Type
        have HI : Hid (i0.zero = some (.agg #[.int .i64 0, .string ⟨#[]⟩, .int .i64 0, .slice none 0 0]) ∧ i0.size = 4 ∧ i0.bytes = 56) := Lib.hid ⟨hz0, hz1, hz2⟩
        clear hz0 hz1 hz2
        have Hi0 := Lib.hid hi0
        clear hi0 hal
        have SKS : Hid (∀ W' : World, Below wb.heap.size wb W' → W'.cell? ⟨w.heap.size + 1 + 1, 3, none⟩ = some (.slice A ts.length c) → (fun W' : World => Below wb.heap.size wb W' ∧ (W'.cell? ⟨w.heap.size, 0, none⟩ = some (.int .i64 k) ∧ W'.cell? ⟨w.heap.size, 1, none⟩ = some (.string nm) ∧ W'.cell? ⟨w.heap.size, 2, none⟩ = some (.int .i64 (ix)) ∧ W'.cell? ⟨w.heap.size, 3, none⟩ = some (.slice (some ⟨g, o, none⟩) m c0)) ∧ (W'.cell? ⟨g, o + ts.length * 4, none⟩ = some (.int .i64 te.kind) ∧ W'.cell? ⟨g, o + ts.length * 4 + 1, none⟩ = some (.string te.name) ∧ W'.cell? ⟨g, o + ts.length * 4 + 2, none⟩ = some (.int .i64 te.index) ∧ W'.cell? ⟨g, o + ts.length * 4 + 3, none⟩ = some (.slice A' te.args.length c')) ∧ (True) ∧ W'.cell? ⟨w.heap.size + 1 + 1, 3, none⟩ = some (.slice A ts.length c)) W') := Lib.hid (fun W' hb' hq => by
          have hc : ∀ (b i : Nat), b < wb.heap.size → W'.cell? ⟨b, i, none⟩ = wr.cell? ⟨b, i, none⟩ := fun b i hb => (hb'.cell (p := ⟨b, i, none⟩) hb).trans (hbwb.cell (p := ⟨b, i, none⟩) hb).symm
          exact ⟨hb', ⟨(hc _ _ (by omega)).trans y0, (hc _ _ (by omega)).trans y1, (hc _ _ (by omega)).trans y2, (hc _ _ (by omega)).trans y3⟩, ⟨(hc _ _ (by omega)).trans e0, (hc _ _ (by omega)).trans e1, (hc _ _ (by omega)).trans e2, (hc _ _ (by omega)).trans e3⟩, trivial, hq⟩)
        go_wp2
        clear y0 y1 y2 y3 e0 e1 e2 e3
        refine wp_region_ord (fun W' : World => Below wb.heap.size wb W' ∧ (W'.cell? ⟨w.heap.size, 0, none⟩ = some (.int .i64 k) ∧ W'.cell? ⟨w.heap.size, 1, none⟩ = some (.string nm) ∧ W'.cell? ⟨w.heap.size, 2, none⟩ = some (.int .i64 (ix)) ∧ W'.cell? ⟨w.heap.size, 3, none⟩ = some (.slice (some ⟨g, o, none⟩) m c0)) ∧ (W'.cell? ⟨g, o + ts.length * 4, none⟩ = some (.int .i64 te.kind) ∧ W'.cell? ⟨g, o + ts.length * 4 + 1, none⟩ = some (.string te.name) ∧ W'.cell? ⟨g, o + ts.length * 4 + 2, none⟩ = some (.int .i64 te.index) ∧ W'.cell? ⟨g, o + ts.length * 4 + 3, none⟩ = some (.slice A' te.args.length c')) ∧ (True) ∧ W'.cell? ⟨w.heap.size + 1 + 1, 3, none⟩ = some (.slice A ts.length c)) 17 [(0, true), (1, true), (2, true), (3, true), (4, true), (5, true), (6, true), (7, true), (8, true), (9, true), (10, true), (11, false), (12, true), (13, false), (14, false), (15, false), (16, true)] (by kernel_rfl) (by kernel_rfl) (SKS.out _ (below_step hbwb (below_drew _)) b3) (fun hHeld => ?_)
        simp only [pickOps, List.getElem?_cons_succ, List.getElem?_cons_zero, List.drop_succ_cons, List.drop_zero]
        iterate 11 (refine wpOrd_take (v := ?_) (fun _ _ _ h => h) (Or.inl ⟨by rfl, ?_⟩) (by assumption) ?_; rotate_left; (focus (intro w hSw; (try dsimp only at hSw); go_simp; (try with_reducible rfl))); (try simp only [Act.put, List.setIfInBounds_toArray, List.set_cons_zero, List.set_cons_succ]))
        refine wpOrd_do (fun K hK => ?_)
        go_simp
        go_at_call 79
        refine (HBND.out _).mono ?_
        rintro e w3 ⟨rfl, hb3⟩
        have hbq3 : Below wr.heap.size wr w3 := below_step (below_drew _) hb3
        have hs3 := hbq3.size
        have q33 : w3.cell? ⟨w.heap.size + 1 + 1, 3, none⟩ = some (.slice A ts.length c) := (hbq3.cell (p := ⟨w.heap.size + 1 + 1, 3, none⟩) hltt).trans b3
        clear hb3
        refine hK.out _ _ (SKS.out _ (below_step hbwb hbq3) q33) (fun hHeld => ?_)
        clear hK K
        (try simp only [Act.put, List.setIfInBounds_toArray, List.set_cons_zero, List.set_cons_succ])
        iterate 1 (refine wpOrd_take (v := ?_) (fun _ _ _ h => h) (Or.inl ⟨by rfl, ?_⟩) (by assumption) ?_; rotate_left; (focus (intro w hSw; (try dsimp only at hSw); go_simp; (try with_reducible rfl))); (try simp only [Act.put, List.setIfInBounds_toArray, List.set_cons_zero, List.set_cons_succ]))
        refine wpOrd_do (fun K hK => ?_)
        go_simp
        go_at_call 69
        refine (IH.out te _ P _ _ (by omega) (HTE.out.below hbq3 (fun b hb => by have := HP.out b hb; omega)) (HBY.out.below (below_step hbwr hbq3) HP.out) (fun b hb => by have := HP.out b hb; omega) HNJ.out HOJ.out (by omega) (by omega)).mono ?_
        rintro e w4 ⟨A1, C1, rfl, hty1, hb4⟩
        have tok4 : True := trivial
        have HB4 := Lib.hid (below_step hbq3 hb4)
        generalize te.repl (fInst ls) (d + bq) = t1 at *
        have HTY := Lib.hid (IsTyP.keep (P' := fun b => P b ∨ (wr.heap.size ≤ b ∧ b < w4.heap.size)) (fun _ _ => rfl) (fun b h => h.imp id (fun h => ⟨by omega, h.2⟩)) hty1)
        have hs4 := HB4.out.size
        have hlt4 : w.heap.size + 1 + 1 < w4.heap.size := by omega
        have ht4 := (HB4.out.block (w.heap.size + 1 + 1) hltt).trans HA.out.1
        have q43 : w4.cell? ⟨w.heap.size + 1 + 1, 3, none⟩ = some (.slice A ts.length c) := by rw [cell_of_row w4 (w.heap.size + 1 + 1) 3 _ _ _ ht4]; rfl
        obtain ⟨xs, hown4, hel4⟩ := HA.out.acc4 HPT.out HB4.out (.cells #[.int .i64 t1.kind, .string t1.name, .int .i64 t1.index, .slice A1 t1.args.length C1] 25)
        have HEL := Lib.hid hel4
        clear hel4 hty1 hb4
        refine hK.out _ _ (SKS.out _ (below_step hbwb HB4.out) q43) (fun hHeld => ?_)
        clear hK K
        (try simp only [Act.put, List.setIfInBounds_toArray, List.set_cons_zero, List.set_cons_succ])
        refine wpOrd_do (fun K hK => ?_)
        go_simp
        refine hK.out _ _ (SKS.out _ (below_step (below_step hbwb HB4.out) (below_new _ _)) (by rw [Below.cell (below_new _ _) (show w.heap.size + 1 + 1 < _ by omega)]; exact q43)) (fun hHeld => ?_)
        clear hK K
        (try simp only [Act.put, List.setIfInBounds_toArray, List.set_cons_zero, List.set_cons_succ])
        refine wpOrd_do (fun K hK => ?_)
        first
        | (have _t := tok4; refine step_append_rd _ ?_ (.tmp 44) (.tmp 57) _ ?_ (w.heap.size + 1 + 1 + 1) 25 i0 (.agg #[.int .i64 0, .string ⟨#[]⟩, .int .i64 0, .slice none 0 0]) 4 56 Tryd.underlying23 Hi0.out HI.out.1 HI.out.2.1 HI.out.2.2 rfl ?_ (.slice A ts.length c) ts.length xs ?_ ?_ (w4.heap.size + 1) (some ⟨w4.heap.size, 0, none⟩) 1 1 [.int .i64 t1.kind, .string t1.name, .int .i64 t1.index, .slice A1 t1.args.length C1] ?_ ?_ ?_ ?_ ?_ ?_; rfl; rfl; omega; rfl; exact hown4; rfl; exact Rd.blk (cs := #[.int .i64 t1.kind, .string t1.name, .int .i64 t1.index, .slice A1 t1.args.length C1]) (blk_new w4 _) rfl (by omega); exact (by simp [Value.oneCell']); omega; go_size; intro v5 w5 hown5 hg5 hat5
           have hs5 := hg5.size
           have ht5 := (hg5.block (w.heap.size + 1 + 1) (by simp; omega) (fun e => by have := HOG.out (w.heap.size + 1 + 1) e.symm; omega)).trans (blk_old ht4)
           have q3 : w5.cell? ⟨w.heap.size + 1 + 1, 3, none⟩ = some (.slice A ts.length c) := by rw [cell_of_row w5 (w.heap.size + 1 + 1) 3 _ _ _ ht5]; rfl
           have q4 : w5.frozen? ⟨w.heap.size + 1 + 1, 3, none⟩ = false := by simp [World.frozen?, ht5]
           obtain ⟨A5, c5, rfl⟩ : ∃ A c, v5 = .slice A (ts.length + 1) c := by
             rcases hown5.2 with ⟨_, h0⟩ | ⟨g, cap, cur, rfl, _⟩
             · omega
             · exact ⟨_, _, rfl⟩
           have HFIN := Lib.hid (HA.out.round HPT.out (by omega) HB4.out HTY.out HEL.out hown4 hown5 hg5 hat5)
           have HBW5 := Lib.hid (Below.grown (below_step (below_step hbwb HB4.out) (below_new w4 _)) hg5 (by have := (below_step hbwb HB4.out).size; simp; omega) (fun k hk => by have := HOG.out k hk; omega))
           clear hown5 hg5 hat5 ht5)
        refine hK.out _ _ (SKS.out _ HBW5.out q3) (fun hHeld => ?_)
        clear hK K
        (try simp only [Act.put, List.setIfInBounds_toArray, List.set_cons_zero, List.set_cons_succ])
        iterate 1 (refine wpOrd_take (v := ?_) (fun _ _ _ h => h) (Or.inl ⟨by rfl, ?_⟩) (by assumption) ?_; rotate_left; (focus (intro w hSw; (try dsimp only at hSw); go_simp; (try with_reducible rfl))); (try simp only [Act.put, List.setIfInBounds_toArray, List.set_cons_zero, List.set_cons_succ]))
        refine wpOrd_end ?_
        clear HEL HB4 HTY hown4 q43 ht4 HA
        go_wp2
        go_roundw
        case rel => exact ⟨ts.length + 1, by omega, by go_num, Lib.hid ⟨_, _, by simp, HTK.out, HFIN.out⟩⟩
        case measure => simp [intOf]; omega
      · obtain ⟨Av, cv, rfl⟩ := hbp.2.2.form
        have hjl : ts.length = m := by omega
        have htt : ts = Ty.repls (fInst ls) k args 0 d := by rw [hts, hjl, ← HLN.out, List.take_length]
        have hrr : wr.heap[w.heap.size + 1]? = some (.cells #[.int .i64 0, .string ⟨#[]⟩, .int .i64 0, .slice none 0 0] 25 (0, 0)) := (hbwb.block _ (by omega)).trans HRB.out
        obtain ⟨⟨r0, r1, r2, r3⟩, f0, f1, f2, f3⟩ := box_frozen hrr
        obtain ⟨y0, y1, y2, y3⟩ := hbp.cell0
        obtain ⟨⟨_, _, _, yt3⟩, _⟩ := box_frozen HTB0.out
        have HFB := Lib.hid (sub_fin (T := T) (nm := nm) (show w.heap.size ≤ w.heap.size + 1 by omega) HP.out hbwr (by rw [htt]; exact HEQ.out) rfl hbp.2.2.isTylP (fun b hb => by
          rcases hb with h | h
          · exact .inl h
          · exact .inr ⟨by omega, h.2⟩) hrr)
        clear hbp hrr hts htt hjl
        go_wp2
        generalize hWF : (((wr.setCell _ _).setCell _ _).setCell _ _).setCell _ _ = WF
        obtain ⟨hfin, z0, z1, z2, z3⟩ := HFB.out WF hWF.symm
        clear hWF
        exact bodyPost_ret (v := .agg #[.int .i64 k, .string nm, .int .i64 (ix), .slice Av ts.length cv]) (by simp [results, Tryd.results69, go_sem, z0, z1, z2, z3]) rfl hfin.out

set_option maxHeartbeats 1000000 in
theorem c_rSubstitute (t b : Ty) (Ab : Option Addr) (cb : Nat) (w : World) (P : Nat → Prop) (v : Value) (ht : IsTyP w P t v) (hby : IsTyP w P b (.agg #[.int .i64 b.kind, .string b.name, .int .i64 b.index, .slice Ab b.args.length cb])) (hP : ∀ b, P b → b < w.heap.size) (hnar : t.nar) (hok : t.ok) (hd : t.depth ≤ 2 ^ 60) :
    Calls Tryd.prog 46 #[v, .agg #[.int .i64 b.kind, .string b.name, .int .i64 b.index, .slice Ab b.args.length cb]] w (SubR (t.repl (fSub b) 0) P w) := by
  have HC := Lib.hid (fun (W : World) (hW : Below w.heap.size w W) => c_rsub b Ab cb t.size t 0 P W v (Nat.le_refl _) (ht.below hW hP) (hby.below hW hP) (fun b hb => Nat.lt_of_lt_of_le (hP b hb) hW.size) hnar hok (Int.le_refl _) (by omega))
  obtain ⟨A1, c1, rfl, _⟩ := ht.args_
  have HP := Lib.hid hP
  clear ht hby hP hnar hok hd
  generalize t.repl (fSub b) 0 = T at *
  generalize t.kind = k1, t.name = n1, t.index = i1, t.args.length = l1, b.kind = kb, b.name = nb, b.index = ib, b.args.length = lb at *
  have HW : Hid (∀ W : World, W = ((w.alloc (.cells #[.int .i64 k1, .string n1, .int .i64 i1, .slice A1 l1 c1] 25)).alloc (.cells #[.int .i64 kb, .string nb, .int .i64 ib, .slice Ab lb cb] 25)).alloc (.cells #[.int .i64 0, .string ⟨#[]⟩, .int .i64 0, .slice none 0 0] 25) → Below w.heap.size w W ∧ W.heap[w.heap.size + 1 + 1]? = some (.cells #[.int .i64 0, .string ⟨#[]⟩, .int .i64 0, .slice none 0 0] 25 (0, 0)) ∧ w.heap.size + 1 + 1 < W.heap.size) := Lib.hid (fun W hW => by
    subst hW
    refine ⟨below_step (below_step (below_new _ _) (below_new _ _)) (below_new _ _), ?_, by simp⟩
    have := blk_new ((w.alloc (.cells #[.int .i64 k1, .string n1, .int .i64 i1, .slice A1 l1 c1] 25)).alloc (.cells #[.int .i64 kb, .string nb, .int .i64 ib, .slice Ab lb cb] 25)) (.cells #[.int .i64 0, .string ⟨#[]⟩, .int .i64 0, .slice none 0 0] 25)
    simpa using this)
  have HT := Lib.hid (show T = ⟨T.kind, T.name, T.index, T.args⟩ by cases T; rfl)
  go_enter Tryd.func46, Tryd.ntmps46
  go_wp2_with fail
  generalize hW0 : ((w.alloc _).alloc _).alloc _ = W0
  obtain ⟨hbW, hrW, hltW⟩ := HW.out W0 hW0.symm
  clear hW0 HW
  refine (HC.out W0 hbW).mono ?_
  rintro e w5 ⟨A5, c5, rfl, hty5, hb5⟩
  have hs5 := hb5.size
  have hr5 := (hb5.block (w.heap.size + 1 + 1) hltW).trans hrW
  obtain ⟨⟨r0, r1, r2, r3⟩, f0, f1, f2, f3⟩ := box_frozen hr5
  have HFB := Lib.hid (sub_fin (T := T) (ts := T.args) (show w.heap.size ≤ w.heap.size + 1 + 1 by omega) HP.out (below_step hbW hb5) HT.out rfl hty5.sl (fun b hb => hb.imp id (fun h => ⟨by omega, h.2⟩)) hr5)
  clear hty5 hr5 hb5
  go_wp2
  generalize hWF : (((w5.setCell _ _).setCell _ _).setCell _ _).setCell _ _ = WF
  obtain ⟨hfin, z0, z1, z2, z3⟩ := HFB.out WF hWF.symm
  clear hWF
  exact bodyPost_ret (v := .agg #[.int .i64 T.kind, .string T.name, .int .i64 T.index, .slice A5 T.args.length c5]) (by simp [results, Tryd.results46, go_sem, z0, z1, z2, z3]) rfl hfin.out
set_option maxHeartbeats 1000000 in
theorem c_rInstantiate (t : Ty) (ls : List Ty) (Al : Option Addr) (ll cl : Nat) (w : World) (P : Nat → Prop) (v : Value) (ht : IsTyP w P t v) (hby : IsTylP w P ls (.slice Al ll cl)) (hP : ∀ b, P b → b < w.heap.size) (hnar : t.nar) (hok : t.ok) (hd : t.depth ≤ 2 ^ 60) :
    Calls Tryd.prog 48 #[v, .slice Al ll cl] w (SubR (t.repl (fInst ls) 0) P w) := by
  have HC := Lib.hid (fun (W : World) (hW : Below w.heap.size w W) => c_rinst ls Al ll cl hby.len_ t.size t 0 P W v (Nat.le_refl _) (ht.below hW hP) (hby.below hW hP) (fun b hb => Nat.lt_of_lt_of_le (hP b hb) hW.size) hnar hok (Int.le_refl _) (by omega))
  obtain ⟨A1, c1, rfl, _⟩ := ht.args_
  have HP := Lib.hid hP
  clear ht hby hP hnar hok hd
  generalize t.repl (fInst ls) 0 = T at *
  generalize t.kind = k1, t.name = n1, t.index = i1, t.args.length = l1 at *
  have HW : Hid (∀ W : World, W = (w.alloc (.cells #[.int .i64 k1, .string n1, .int .i64 i1, .slice A1 l1 c1] 25)).alloc (.cells #[.int .i64 0, .string ⟨#[]⟩, .int .i64 0, .slice none 0 0] 25) → Below w.heap.size w W ∧ W.heap[w.heap.size + 1]? = some (.cells #[.int .i64 0, .string ⟨#[]⟩, .int .i64 0, .slice none 0 0] 25 (0, 0)) ∧ w.heap.size + 1 < W.heap.size) := Lib.hid (fun W hW => by
    subst hW
    refine ⟨below_step (below_new _ _) (below_new _ _), ?_, by simp⟩
    have := blk_new (w.alloc (.cells #[.int .i64 k1, .string n1, .int .i64 i1, .slice A1 l1 c1] 25)) (.cells #[.int .i64 0, .string ⟨#[]⟩, .int .i64 0, .slice none 0 0] 25)
    simpa using this)
  have HT := Lib.hid (show T = ⟨T.kind, T.name, T.index, T.args⟩ by cases T; rfl)
  go_enter Tryd.func48, Tryd.ntmps48
  go_wp2_with fail
  generalize hW0 : (w.alloc _).alloc _ = W0
  obtain ⟨hbW, hrW, hltW⟩ := HW.out W0 hW0.symm
  clear hW0 HW
  refine (HC.out W0 hbW).mono ?_
  rintro e w5 ⟨A5, c5, rfl, hty5, hb5⟩
  have hs5 := hb5.size
  have hr5 := (hb5.block (w.heap.size + 1) hltW).trans hrW
  obtain ⟨⟨r0, r1, r2, r3⟩, f0, f1, f2, f3⟩ := box_frozen hr5
  have HFB := Lib.hid (sub_fin (T := T) (ts := T.args) (show w.heap.size ≤ w.heap.size + 1 by omega) HP.out (below_step hbW hb5) HT.out rfl hty5.sl (fun b hb => hb.imp id (fun h => ⟨by omega, h.2⟩)) hr5)
  clear hty5 hr5 hb5
  go_wp2
  generalize hWF : (((w5.setCell _ _).setCell _ _).setCell _ _).setCell _ _ = WF
  obtain ⟨hfin, z0, z1, z2, z3⟩ := HFB.out WF hWF.symm
  clear hWF
  exact bodyPost_ret (v := .agg #[.int .i64 T.kind, .string T.name, .int .i64 T.index, .slice A5 T.args.length c5]) (by simp [results, Tryd.results48, go_sem, z0, z1, z2, z3]) rfl hfin.out
end Go.Proofs.YtdbflfakocaapaaDoor
