/- Contracts of clone, replace, Substitute, Instantiate: what they compute, in new memory. -/
import Derived.Test.YtdbflfakocaapaaDoorBox
import Derived.Test.YtdbflfakocaapaaDoorClosed
import Derived.Test.YtdbflfakocaapaaDoorFuncs
import Derived.Deep.RegionHeld3
namespace Go.Proofs.YtdbflfakocaapaaDoor
open Go.RowKit
attribute [local go_sem ↓] Go.wp_at_zero Go.wp_at_succ

mutual
/-- No node has more than 2^40 arguments. -/
def Ty.nar : Ty → Prop
  | ⟨_, _, _, args⟩ => args.length ≤ 2 ^ 40 ∧ Ty.nars args
def Ty.nars : List Ty → Prop
  | [] => True
  | t :: ts => Ty.nar t ∧ Ty.nars ts
 end
theorem Ty.nar_eq (t : Ty) : t.nar = (t.args.length ≤ 2 ^ 40 ∧ Ty.nars t.args) := by cases t; rw [Ty.nar]
theorem Ty.nar_get {ts : List Ty} (h : Ty.nars ts) (j : Nat) (hj : j < ts.length) : Ty.nar ts[j] := by
  induction ts generalizing j with
  | nil => simp at hj
  | cons t ts ih =>
    unfold Ty.nars at h
    rcases j with _ | j
    · exact h.1
    · exact ih h.2 j (by simpa using hj)
theorem Ty.nars_of {ts : List Ty} (h : ∀ t ∈ ts, Ty.nar t) : Ty.nars ts := by
  induction ts with
  | nil => unfold Ty.nars; trivial
  | cons t ts ih => unfold Ty.nars; exact ⟨h t (by simp), ih fun x hx => h x (by simp [hx])⟩
/-- A term has come back, in new memory; nothing old has changed. -/
def NewTy (t : Ty) (w : World) (e : Ending) (w' : World) : Prop := ∃ u, e = .returned u ∧ IsTy w' w.heap.size w'.heap.size t u ∧ Below w.heap.size w w'
theorem BL.alloc {row : Option Nat} {tb : Nat} {w W : World} {k : Int} {nm : ByteArray} {ix : Int} {v : Value} {ts : List Ty} (h : BL row tb w W k nm ix v ts) (o : Obj) : BL row tb w (W.alloc o) k nm ix v ts :=
  ⟨(Below.heap_alloc _ _ _ (blk_lt' h.1)).trans h.1, grown_trans' h.2.1 (grown_of_below (below_new _ _)), h.2.2.below (below_new _ _)⟩

/-- Three boxes: the argument, the result, the variable that is built. -/
theorem three_boxes (w : World) (k : Int) (nm : ByteArray) (ix : Int) (A : Option Addr) (n c : Nat) (k' ix' : Int) (nm' : ByteArray) : ∀ W : World, W = (((w.alloc (.cells #[.int .i64 k, .string nm, .int .i64 ix, .slice A n c] 25)).alloc (.cells #[.int .i64 0, .string ⟨#[]⟩, .int .i64 0, .slice none 0 0] 25)).alloc (.cells #[.int .i64 k', .string nm', .int .i64 ix', .slice none 0 0] 25)) →
    ∃ wb : World, Below w.heap.size w wb ∧ wb.heap.size = w.heap.size + 1 + 1 ∧ wb.heap[w.heap.size]? = some (.cells #[.int .i64 k, .string nm, .int .i64 ix, .slice A n c] 25 (0, 0)) ∧ wb.heap[w.heap.size + 1]? = some (.cells #[.int .i64 0, .string ⟨#[]⟩, .int .i64 0, .slice none 0 0] 25 (0, 0)) ∧ BL none (w.heap.size + 1 + 1) wb W k' nm' ix' (.slice none 0 0) [] := by
  rintro W rfl
  refine ⟨(w.alloc (.cells #[.int .i64 k, .string nm, .int .i64 ix, .slice A n c] 25)).alloc (.cells #[.int .i64 0, .string ⟨#[]⟩, .int .i64 0, .slice none 0 0] 25), below_step (below_new _ _) (below_new _ _), by simp, ?_, ?_, ?_⟩
  · exact blk_old (blk_new _ _)
  · have := blk_new (w.alloc (.cells #[.int .i64 k, .string nm, .int .i64 ix, .slice A n c] 25)) (.cells #[.int .i64 0, .string ⟨#[]⟩, .int .i64 0, .slice none 0 0] 25)
    simpa using this
  · have := blk_new ((w.alloc (.cells #[.int .i64 k, .string nm, .int .i64 ix, .slice A n c] 25)).alloc (.cells #[.int .i64 0, .string ⟨#[]⟩, .int .i64 0, .slice none 0 0] 25)) (.cells #[.int .i64 k', .string nm', .int .i64 ix', .slice none 0 0] 25)
    exact BL.start (by simpa using this) (grown_of_below (below_new _ _))
theorem box_frozen {w : World} {b : Nat} {x0 x1 x2 x3 : Value} {T : TypeId} (h : w.heap[b]? = some (.cells #[x0, x1, x2, x3] T (0, 0))) :
    (w.cell? ⟨b, 0, none⟩ = some (x0) ∧ w.cell? ⟨b, 1, none⟩ = some (x1) ∧ w.cell? ⟨b, 2, none⟩ = some (x2) ∧ w.cell? ⟨b, 3, none⟩ = some (x3)) ∧ w.frozen? ⟨b, 0, none⟩ = false ∧ w.frozen? ⟨b, 1, none⟩ = false ∧ w.frozen? ⟨b, 2, none⟩ = false ∧ w.frozen? ⟨b, 3, none⟩ = false := by
  refine ⟨⟨?_, ?_, ?_, ?_⟩, ?_, ?_, ?_, ?_⟩
  · rw [cell_of_row w b 0 _ _ _ h]; rfl
  · rw [cell_of_row w b 1 _ _ _ h]; rfl
  · rw [cell_of_row w b 2 _ _ _ h]; rfl
  · rw [cell_of_row w b 3 _ _ _ h]; rfl
  all_goals simp [World.frozen?, h]

/-- The result is stored into its box and handed back. -/
theorem fin_box {w wb wr : World} {k : Int} {nm : ByteArray} {ix : Int} {v x0 x1 x2 x3 : Value} {ts : List Ty} (hb : Below w.heap.size w wb) (hs : wb.heap.size = w.heap.size + 1 + 1) (h : BL none (w.heap.size + 1 + 1) wb wr k nm ix v ts) (hr : wr.heap[w.heap.size + 1]? = some (.cells #[x0, x1, x2, x3] 25 (0, 0))) :
    ∀ W : World, W = ((((wr.setCell ⟨w.heap.size + 1, 0, none⟩ (.int .i64 k)).setCell ⟨w.heap.size + 1, 1, none⟩ (.string nm)).setCell ⟨w.heap.size + 1, 2, none⟩ (.int .i64 ix)).setCell ⟨w.heap.size + 1, 3, none⟩ v) →
    Hid (IsTy W w.heap.size W.heap.size ⟨k, nm, ix, ts⟩ (.agg #[.int .i64 k, .string nm, .int .i64 ix, v])) ∧ Below w.heap.size w W ∧ (W.cell? ⟨w.heap.size + 1, 0, none⟩ = some (.int .i64 k) ∧ W.cell? ⟨w.heap.size + 1, 1, none⟩ = some (.string nm) ∧ W.cell? ⟨w.heap.size + 1, 2, none⟩ = some (.int .i64 ix) ∧ W.cell? ⟨w.heap.size + 1, 3, none⟩ = some (v)) := by
  rintro W rfl
  obtain ⟨s1, s2, s3⟩ := set4 (.int .i64 k) (.string nm) (.int .i64 ix) v hr
  have hg := h.2.1
  exact ⟨Lib.hid ((h.isTy (m := w.heap.size + 1 + 1 + 1) (Nat.le_refl _)).keep (fun b h1 h2 => s2 b (by omega)) (by omega) (by rw [s3]; exact Nat.le_refl _)), ⟨hg.os.trans hb.os, hg.tape.trans hb.tape, hg.output.trans hb.output, by rw [s3]; have := hg.size; have := hb.size; omega, fun j hj => (s2 j (by omega)).trans ((hg.block j (by omega) (by simp)).trans (hb.block j hj))⟩, (box_frozen s1).1⟩

set_option maxHeartbeats 2000000 in
theorem c_clone (N : Nat) : ∀ (t : Ty) (w : World) (L B : Nat) (v : Value), t.size ≤ N → IsTy w L B t v → B ≤ w.heap.size → t.nar → t.size ≤ 2 ^ 60 →
    Calls Tryd.prog 85 #[v] w (NewTy t w) := by
  induction N with
  | zero => intro t w L B v h; have := t.size_pos; omega
  | succ N ih =>
  intro t w L B v hN ht0 hB hnar hM
  obtain ⟨A0, c0, rfl, hv⟩ := ht0.args_
  clear ht0
  rw [Ty.size_eq] at hN hM
  have hl := Ty.len_le t.args
  rw [Ty.nar_eq] at hnar
  obtain ⟨hn40, hnars⟩ := hnar
  have HNAR := Lib.hid hnars
  have HEQ : Hid (t = ⟨t.kind, t.name, t.index, t.args⟩) := Lib.hid (by cases t; rfl)
  generalize t.kind = k, t.name = nm, t.index = ix, t.args = args at *
  have HV := Lib.hid hv; clear hv
  have IH := Lib.hid ih; clear ih
  generalize hn : args.length = n at *
  have Hn := Lib.hid hn; clear hn hnars
  have HX0 := Lib.hid (three_boxes w k nm ix A0 n c0 k ix nm)
  go_enter Tryd.func85, Tryd.ntmps85
  go_wp2
  generalize hW0 : ((w.alloc _).alloc _).alloc _ = W0
  obtain ⟨wb, hbb, hsb, _, hrb, hbl0⟩ := HX0.out W0 hW0.symm
  have HBL0 := Lib.hid hbl0
  have HRB := Lib.hid hrb
  clear hW0 HX0 hbl0 hrb
  go_loopw [11] (fun i wr => ∃ j : Nat, j ≤ n ∧ i = .int .i64 j ∧ Hid (∃ v ts, ts.length = j ∧ ts = args.take j ∧ BL none (w.heap.size + 1 + 1) wb wr k nm ix v ts)) (fun i _ => n - (intOf i).toNat)
  case atStart => exact ⟨0, by omega, rfl, Lib.hid ⟨_, [], rfl, by simp, HBL0.out⟩⟩
  case round =>
    obtain ⟨j, hj, rfl, HBL⟩ := hrel
    obtain ⟨v, ts, hlen, hts, hbl⟩ := HBL.out
    subst hlen
    have hbwr : Below w.heap.size w wr := hbb.trans ((below_of_grown0 hbl.2.1).mono hbb.size)
    have HBW := Lib.hid hbl
    have hltt0 := blk_lt' hbl.1
    clear HBL HBL0
    by_cases hjn : ts.length < n
    · obtain ⟨g, o, A', c', hj', rfl, hg1, hg2, e0, e1, e2, e3, ht⟩ := HV.out.at_ (KeepIn.of_below hbwr hB) hjn
      have hsg := Ty.size_get ts.length hj'
      have HTK : Hid (ts ++ [args[ts.length]] = args.take (ts.length + 1)) := Lib.hid (by rw [List.take_succ_eq_append_getElem hj', ← hts])
      have HNJ := Lib.hid (Ty.nar_get HNAR.out ts.length hj')
      have HT := Lib.hid ht
      clear ht hts
      generalize args[ts.length] = t1 at *
      have HBQ : Hid (∀ W : World, W = wr.alloc (.cells #[.int .i64 t1.kind, .string t1.name, .int .i64 t1.index, .slice A' t1.args.length c'] 25) → BL none (w.heap.size + 1 + 1) wb W k nm ix v ts ∧ (W.cell? ⟨wr.heap.size, 0, none⟩ = some (.int .i64 t1.kind) ∧ W.cell? ⟨wr.heap.size, 1, none⟩ = some (.string t1.name) ∧ W.cell? ⟨wr.heap.size, 2, none⟩ = some (.int .i64 t1.index) ∧ W.cell? ⟨wr.heap.size, 3, none⟩ = some (.slice A' t1.args.length c')) ∧ Below wr.heap.size wr W) := Lib.hid (fun W hW => by
        subst hW
        exact ⟨HBW.out.alloc _, box_alloc _ _ _ _ _ _, below_new _ _⟩)
      go_wp2
      generalize hWq : wr.alloc _ = wq
      obtain ⟨hal, ⟨x0, x1, x2, x3⟩, hbq⟩ := HBQ.out wq hWq.symm
      clear HBQ HBW hWq e0 e1 e2 e3
      have hsq := hbq.size
      have HA := Lib.hid hal
      obtain ⟨A, c, rfl⟩ := hal.2.2.form
      have hltt := blk_lt' hal.1
      have hsgw := hal.2.1.size
      have HOG := Lib.hid hal.2.2.own_ge
      have b3 : wq.cell? ⟨w.heap.size + 1 + 1, 3, none⟩ = some (.slice A ts.length c) := hal.cell0.2.2.2
      obtain ⟨i0, hi0, hz0, hz1, hz2⟩ := info_parts info_Type
      have HI : Hid (i0.zero = some (.agg #[.int .i64 0, .string ⟨#[]⟩, .int .i64 0, .slice none 0 0]) ∧ i0.size = 4 ∧ i0.bytes = 56) := Lib.hid ⟨hz0, hz1, hz2⟩
      clear hz0 hz1 hz2
      have Hi0 := Lib.hid hi0
      clear hi0 hal
      have hL4 : wq.heap.size ≤ wq.drew.heap.size := Nat.le_refl _
      go_region_law (first
        | (have _t := tok4; refine step_append_rd _ ?_ (.tmp 16) (.tmp 19) _ ?_ (w.heap.size + 1 + 1 + 1) 25 i0 (.agg #[.int .i64 0, .string ⟨#[]⟩, .int .i64 0, .slice none 0 0]) 4 56 Tryd.underlying23 Hi0.out HI.out.1 HI.out.2.1 HI.out.2.2 rfl ?_ (.slice A ts.length c) ts.length xs ?_ ?_ (w4.heap.size + 1) (some ⟨w4.heap.size, 0, none⟩) 1 1 [.int .i64 t1.kind, .string t1.name, .int .i64 t1.index, .slice A1 t1.args.length c1] ?_ ?_ ?_ ?_ ?_ ?_; rfl; rfl; omega; rfl; exact hown4; rfl; exact Rd.blk (cs := #[.int .i64 t1.kind, .string t1.name, .int .i64 t1.index, .slice A1 t1.args.length c1]) (blk_new w4 _) rfl (by omega); exact (by simp [Value.oneCell']); omega; go_size; intro v5 w5 hown5 hg5 hat5
           have hs5 := hg5.size
           have ht5 := (hg5.block (w.heap.size + 1 + 1) (by simp; omega) (fun e => by have := HOG.out (w.heap.size + 1 + 1) e.symm; omega)).trans (blk_old ht4)
           have q3 : w5.cell? ⟨w.heap.size + 1 + 1, 3, none⟩ = some (.slice A ts.length c) := by rw [cell_of_row w5 (w.heap.size + 1 + 1) 3 _ _ _ ht5]; rfl
           have q4 : w5.frozen? ⟨w.heap.size + 1 + 1, 3, none⟩ = false := by simp [World.frozen?, ht5]
           obtain ⟨A5, c5, rfl⟩ : ∃ A c, v5 = .slice A (ts.length + 1) c := by
             rcases hown5.2 with ⟨_, h0⟩ | ⟨g, cap, cur, rfl, _⟩
             · omega
             · exact ⟨_, _, rfl⟩
           have HFIN := Lib.hid (HA.out.round (row_none) (by omega) HG4.out hL4 HTY.out HEL.out hown4 hown5 hg5 hat5)
           clear hown5 hg5 hat5 ht5)
        | (go_simp; go_at_call 85; refine (IH.out t1 _ L B _ (by omega) (HT.out.below (below_step hbq (below_drew _)) (by have := hbwr.size; omega)) (by have := hbwr.size; show B ≤ wq.heap.size; omega) HNJ.out (by omega)).mono ?_; rintro e w4 ⟨u1, rfl, hty1, hb4⟩
           have hg4 : wq.drew.grownBy w4 none := grown_of_below hb4
           clear hb4
           have tok4 : True := trivial
           have HTY := Lib.hid hty1
           obtain ⟨A1, c1, hvv, _⟩ := hty1.args_
           subst hvv
           have hs4 := hg4.size
           simp at hs4
           have hlt4 : w.heap.size + 1 + 1 < w4.heap.size := by omega
           have ht4 := HA.out.box4 (row_none) hg4
           have q43 : w4.cell? ⟨w.heap.size + 1 + 1, 3, none⟩ = some (.slice A ts.length c) := by rw [cell_of_row w4 (w.heap.size + 1 + 1) 3 _ _ _ ht4]; rfl
           obtain ⟨xs, hown4, hel4⟩ := HA.out.acc4 (row_none) hg4 (.cells #[.int .i64 t1.kind, .string t1.name, .int .i64 t1.index, .slice A1 t1.args.length c1] 25)
           have HEL := Lib.hid hel4
           have HG4 := Lib.hid hg4
           clear hel4 hty1 hg4
           ))
      all_goals
        clear HEL HG4 HTY hown4 q43 ht4 HA
        go_wp2
        go_roundw
        case rel => exact ⟨ts.length + 1, by omega, by go_num, Lib.hid ⟨_, _, by simp, HTK.out, HFIN.out⟩⟩
        case measure => simp [intOf]; omega
    · obtain ⟨Av, cv, rfl⟩ := hbl.2.2.form
      have hjl : ts.length = n := by omega
      have htt : ts = args := by rw [hts, hjl, ← Hn.out, List.take_length]
      have hrr : wr.heap[w.heap.size + 1]? = some (.cells #[.int .i64 0, .string ⟨#[]⟩, .int .i64 0, .slice none 0 0] 25 (0, 0)) := (hbl.2.1.block _ (by omega) (by simp)).trans HRB.out
      obtain ⟨⟨r0, r1, r2, r3⟩, f0, f1, f2, f3⟩ := box_frozen hrr
      obtain ⟨y0, y1, y2, y3⟩ := hbl.cell0
      have HFB := Lib.hid (fin_box hbb hsb hbl hrr)
      have HEQ2 : Hid (t = ⟨k, nm, ix, ts⟩) := Lib.hid (by rw [htt]; exact HEQ.out)
      clear htt hts hbl hrr hjl
      go_wp2
      generalize hWF : (((wr.setCell _ _).setCell _ _).setCell _ _).setCell _ _ = WF
      obtain ⟨hfin, hbel, z0, z1, z2, z3⟩ := HFB.out WF hWF.symm
      clear hWF
      exact bodyPost_ret (v := .agg #[.int .i64 k, .string nm, .int .i64 ix, .slice Av ts.length cv]) (by simp [results, Tryd.results85, go_sem, z0, z1, z2, z3]) rfl ⟨_, rfl, by rw [HEQ2.out]; exact hfin.out, hbel⟩
end Go.Proofs.YtdbflfakocaapaaDoor
