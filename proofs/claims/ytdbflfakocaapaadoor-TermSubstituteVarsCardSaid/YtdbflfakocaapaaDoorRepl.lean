/- Contracts of replace, Substitute, Instantiate. -/
import Derived.Test.YtdbflfakocaapaaDoorSubst
namespace Go.Proofs.YtdbflfakocaapaaDoor
open Go.RowKit
attribute [local go_sem ↓] Go.wp_at_zero Go.wp_at_succ

mutual
/-- The copy of a term in which f decides about the variables. -/
def Ty.repl (f : Int → Int → Ty ⊕ Int) : Ty → Int → Ty
  | ⟨k, nm, ix, args⟩, d => match (if k = 5 then f ix d else .inr ix) with
    | .inl t => t
    | .inr i => ⟨k, nm, i, Ty.repls f k args 0 d⟩
def Ty.repls (f : Int → Int → Ty ⊕ Int) (k : Int) : List Ty → Nat → Int → List Ty
  | [], _, _ => []
  | t :: ts, i, d => Ty.repl f t (d + bindI k i) :: Ty.repls f k ts (i + 1) d
 end
theorem Ty.repl_var {f : Int → Int → Ty ⊕ Int} {t t' : Ty} {d : Int} (hk : t.kind = 5) (h : f t.index d = .inl t') : t.repl f d = t' := by
  obtain ⟨k, nm, ix, args⟩ := t
  rw [Ty.repl]
  obtain rfl : k = 5 := hk
  have h' : f ix d = .inl t' := h
  rw [if_pos rfl, h']
theorem Ty.repl_idx {f : Int → Int → Ty ⊕ Int} {t : Ty} {i d : Int} (hk : t.kind = 5) (h : f t.index d = .inr i) : t.repl f d = ⟨t.kind, t.name, i, Ty.repls f t.kind t.args 0 d⟩ := by
  obtain ⟨k, nm, ix, args⟩ := t
  rw [Ty.repl]
  obtain rfl : k = 5 := hk
  have h' : f ix d = .inr i := h
  rw [if_pos rfl, h']
theorem Ty.repl_other {f : Int → Int → Ty ⊕ Int} {t : Ty} {d : Int} (hk : ¬ t.kind = 5) : t.repl f d = ⟨t.kind, t.name, t.index, Ty.repls f t.kind t.args 0 d⟩ := by
  obtain ⟨k, nm, ix, args⟩ := t
  rw [Ty.repl]
  have h' : ¬ k = 5 := hk
  rw [if_neg h']
theorem Ty.repls_take {f : Int → Int → Ty ⊕ Int} (k : Int) (ts : List Ty) (i : Nat) (d : Int) (j : Nat) (hj : j < ts.length) : Ty.repls f k (ts.take (j + 1)) i d = Ty.repls f k (ts.take j) i d ++ [ts[j].repl f (d + bindI k (i + j))] := by
  induction ts generalizing i j with
  | nil => simp at hj
  | cons t ts ih =>
    rcases j with _ | j
    · simp [Ty.repls]
    · have := ih (i + 1) j (by simpa using hj)
      simp [Ty.repls, this, Nat.add_assoc, Nat.add_comm 1 j]
theorem Ty.repls_len {f : Int → Int → Ty ⊕ Int} (k : Int) (ts : List Ty) (i : Nat) (d : Int) : (Ty.repls f k ts i d).length = ts.length := by
  induction ts generalizing i with
  | nil => simp [Ty.repls]
  | cons t ts ih => simp [Ty.repls, ih]

theorem Ty.depth_get {ts : List Ty} (j : Nat) (hj : j < ts.length) : Ty.depth ts[j] ≤ Ty.depths ts := by
  induction ts generalizing j with
  | nil => simp at hj
  | cons t ts ih =>
    unfold Ty.depths
    rcases j with _ | j
    · simp; omega
    · have := ih j (by simpa using hj)
      simp
      omega
/-- The function value F, with what it has captured, decides as f does, in every world that has grown out of w; it only reads. -/
def RepOk (F : FuncId) (caps : Array Value) (f : Int → Int → Ty ⊕ Int) (w : World) (Lb Bb : Nat) : Prop :=
  ∀ (W : World) (ix d : Int), Below w.heap.size w W → inI ix → 0 ≤ d → d ≤ 2 ^ 61 → Calls Tryd.prog F (#[.int .i64 ix, .int .i64 d] ++ caps) W fun e w' => Below W.heap.size W w' ∧
    ((∃ t g o A c, f ix d = .inl t ∧ e = .returned (.tuple #[.pointer (some ⟨g, o, none⟩), .int .i64 0]) ∧ w'.cell? ⟨g, o, none⟩ = some (.int .i64 t.kind) ∧ w'.cell? ⟨g, o + 1, none⟩ = some (.string t.name) ∧ w'.cell? ⟨g, o + 2, none⟩ = some (.int .i64 t.index) ∧ w'.cell? ⟨g, o + 3, none⟩ = some (.slice A t.args.length c) ∧
        IsTy w' Lb Bb t (.agg #[.int .i64 t.kind, .string t.name, .int .i64 t.index, .slice A t.args.length c]) ∧ t.nar ∧ t.size ≤ 2 ^ 60) ∨
      ∃ i, f ix d = .inr i ∧ inI i ∧ e = .returned (.tuple #[.pointer none, .int .i64 i]))

theorem RepOk.grow {F : FuncId} {caps : Array Value} {f : Int → Int → Ty ⊕ Int} {w w' : World} {Lb Bb : Nat} (h : RepOk F caps f w Lb Bb) (hb : Below w.heap.size w w') : RepOk F caps f w' Lb Bb :=
  fun W ix d hW h1 h2 h3 => h W ix d (below_step hb hW) h1 h2 h3
theorem fin_box2 {w w5 : World} {t : Ty} {k : Int} {nm : ByteArray} {ix : Int} {v x0 x1 x2 x3 : Value} (hb : Below w.heap.size w w5) (hty : IsTy w5 (w.heap.size + 1 + 1) w5.heap.size t (.agg #[.int .i64 k, .string nm, .int .i64 ix, v])) (hr : w5.heap[w.heap.size + 1]? = some (.cells #[x0, x1, x2, x3] 25 (0, 0))) :
    ∀ W : World, W = ((((w5.setCell ⟨w.heap.size + 1, 0, none⟩ (.int .i64 k)).setCell ⟨w.heap.size + 1, 1, none⟩ (.string nm)).setCell ⟨w.heap.size + 1, 2, none⟩ (.int .i64 ix)).setCell ⟨w.heap.size + 1, 3, none⟩ v) →
    Hid (IsTy W w.heap.size W.heap.size t (.agg #[.int .i64 k, .string nm, .int .i64 ix, v])) ∧ Below w.heap.size w W ∧ (W.cell? ⟨w.heap.size + 1, 0, none⟩ = some (.int .i64 k) ∧ W.cell? ⟨w.heap.size + 1, 1, none⟩ = some (.string nm) ∧ W.cell? ⟨w.heap.size + 1, 2, none⟩ = some (.int .i64 ix) ∧ W.cell? ⟨w.heap.size + 1, 3, none⟩ = some (v)) := by
  rintro W rfl
  obtain ⟨s1, s2, s3⟩ := set4 (.int .i64 k) (.string nm) (.int .i64 ix) v hr
  exact ⟨Lib.hid (hty.keep (fun b h1 h2 => s2 b (by omega)) (by omega) (by rw [s3]; exact Nat.le_refl _)), ⟨hb.os, hb.tape, hb.output, by rw [s3]; exact hb.size, fun j hj => (s2 j (by omega)).trans (hb.block j hj)⟩, (box_frozen s1).1⟩
theorem BL.reidx {tb : Nat} {wb W W2 : World} {k : Int} {nm : ByteArray} {ix i : Int} (h : BL none tb wb W k nm ix (.slice none 0 0) []) (hb : Below W.heap.size W W2) (ht : wb.heap.size ≤ tb) : ∀ W' : World, W' = W2.setCell ⟨tb, 2, none⟩ (.int .i64 i) → BL none tb wb W' k nm i (.slice none 0 0) [] := by
  rintro W' rfl
  have h2 := (hb.block tb (blk_lt' h.1)).trans h.1
  have hg := grown_trans' h.2.1 (grown_of_below (row := none) hb)
  exact BL.start (by simp [World.setCell, Array.getElem?_modify, h2]) ⟨hg.os, hg.tape, hg.output, by simp [World.setCell]; exact hg.size, fun b hb' hne => (Below.heap_setCell _ _ _ _ (by show b ≠ tb; omega)).trans (hg.block b hb' hne)⟩


set_option maxRecDepth 20000 in
set_option maxHeartbeats 4000000 in
theorem c_replace (F : FuncId) (caps : Array Value) (f : Int → Int → Ty ⊕ Int) (hF : EntersF F) (N : Nat) : ∀ (t : Ty) (d : Int) (w : World) (L B Lb Bb : Nat) (v : Value), t.size ≤ N → IsTy w L B t v → B ≤ w.heap.size → Bb ≤ w.heap.size → t.nar → t.ok → 0 ≤ d → d + t.depth ≤ 2 ^ 61 → RepOk F caps f w Lb Bb →
    Calls Tryd.prog 65 #[v, .int .i64 d, .func (.func F) #[] caps] w (NewTy (t.repl f d) w) := by
  induction N with
  | zero => intro t d w L B Lb Bb v h; have := t.size_pos; omega
  | succ N ih =>
  intro t d w L B Lb Bb v hN ht0 hB hBb hnar hok hd0 hd1 hrep
  have HT0 := Lib.hid ht0
  obtain ⟨A0, c0, rfl, hv⟩ := ht0.args_
  clear ht0
  rw [Ty.size_eq] at hN
  rw [Ty.depth_eq] at hd1
  have hl := Ty.len_le t.args
  rw [Ty.nar_eq] at hnar
  rw [Ty.ok_eq] at hok
  obtain ⟨hn40, hnars⟩ := hnar
  obtain ⟨_, hokx, hoks⟩ := hok
  have HNAR := Lib.hid hnars
  have HOKS := Lib.hid hoks
  have HOKX := Lib.hid hokx
  have HREP := Lib.hid hrep
  have HR1 := Lib.hid (fun (t' : Ty) (hk : t.kind = 5) (h : f t.index d = .inl t') => Ty.repl_var hk h)
  have HR2 := Lib.hid (fun (i : Int) (hk : t.kind = 5) (h : f t.index d = .inr i) => Ty.repl_idx hk h)
  have HR3 := Lib.hid (fun (hk : ¬ t.kind = 5) => Ty.repl_other (f := f) (d := d) hk)
  generalize t.repl f d = T at *
  generalize t.kind = k, t.name = nm, t.index = ix, t.args = args at *
  have HV := Lib.hid hv; clear hv hrep hnars hoks hokx
  have IH := Lib.hid ih; clear ih
  generalize hn : args.length = n at *
  have Hn := Lib.hid hn; clear hn
  unfold EntersF at hF
  have HX0 := Lib.hid (three_boxes w k nm ix A0 n c0 k ix nm)
  by_cases hk5 : k = 5
  · subst hk5
    go_enter Tryd.func65, Tryd.ntmps65
    go_wp2_with fail
    generalize hW0 : ((w.alloc _).alloc _).alloc _ = W0
    obtain ⟨wb, hbb, hsb, htb, hrb, hbl0⟩ := HX0.out W0 hW0.symm
    have HBL1 := Lib.hid hbl0
    have hbw0 : Below wb.heap.size wb W0 := below_of_grown0 hbl0.2.1
    have hltb := blk_lt' hbl0.1
    have hbW0 : Below w.heap.size w W0 := hbb.trans (hbw0.mono hbb.size)
    have HRB := Lib.hid hrb
    have HTB := Lib.hid htb
    clear hW0 HX0 hbl0 hrb htb
    refine (HREP.out W0 ix d hbW0 HOKX.out hd0 (by omega)).mono ?_
    rintro e w2 ⟨hb2, ⟨t', g, o, A', c', hf, rfl, e0, e1, e2, e3, hty', hnar', hsz'⟩ | ⟨iy, hf, hi, rfl⟩⟩
    · have HEQ := Lib.hid (HR1.out t' trivial hf)
      have hbw2 : Below w.heap.size w w2 := below_step hbW0 hb2
      have HTY' := Lib.hid hty'
      have HNR := Lib.hid hnar'
      have hs0 := hbW0.size
      have hs2 := hb2.size
      clear hf hty' hnar' HR1 HR2 HR3 HREP
      go_wp2_with fail
      refine (c_clone t'.size t' _ Lb Bb _ (Nat.le_refl _) HTY'.out (by omega) HNR.out hsz').mono ?_
      rintro e w5 ⟨u, rfl, hty5, hb5⟩
      have hs5 := hb5.size
      have hr5 := (hb5.block (w.heap.size + 1) (by omega)).trans ((hb2.block (w.heap.size + 1) (by omega)).trans ((hbw0.block (w.heap.size + 1) (by omega)).trans HRB.out))
      obtain ⟨⟨r0, r1, r2, r3⟩, f0, f1, f2, f3⟩ := box_frozen hr5
      obtain ⟨A5, c5, rfl, _⟩ := hty5.args_
      have HFB := Lib.hid (fin_box2 (below_step hbw2 hb5) (hty5.more (by omega) (Nat.le_refl _)) hr5)
      clear hty5 hr5 hb5
      go_wp2
      generalize hWF : (((w5.setCell _ _).setCell _ _).setCell _ _).setCell _ _ = WF
      obtain ⟨hfin, hbel, z0, z1, z2, z3⟩ := HFB.out WF hWF.symm
      clear hWF
      exact bodyPost_ret (v := .agg #[.int .i64 t'.kind, .string t'.name, .int .i64 t'.index, .slice A5 t'.args.length c5]) (by simp [results, Tryd.results65, go_sem, z0, z1, z2, z3]) rfl ⟨_, rfl, by rw [HEQ.out]; exact hfin.out, hbel⟩
    · have HEQ := Lib.hid (HR2.out iy trivial hf)
      have HB1 := Lib.hid (HBL1.out.reidx (i := iy) hb2 (by omega))
      obtain ⟨⟨r0, r1, r2, r3⟩, f0, f1, f2, f3⟩ := box_frozen ((hb2.block _ hltb).trans HBL1.out.1)
      have hs2 := hb2.size
      obtain ⟨⟨b0, b1, b2, b3⟩, _⟩ := box_frozen ((hb2.block w.heap.size (by have := hbw0.size; omega)).trans ((hbw0.block w.heap.size (by omega)).trans HTB.out))
      clear hf HR1 HR2 HR3 hi
      go_wp2
      generalize hW1 : w2.setCell _ _ = W1
      have HBL0 := Lib.hid (HB1.out W1 hW1.symm)
      clear hW1 HB1 HBL1 r0 r1 r2 r3 f0 f1 f2 f3 b0 b1 b2 b3
      go_loopw [36] (fun i wr => ∃ j : Nat, j ≤ n ∧ i = .int .i64 j ∧ Hid (∃ v ts, ts.length = j ∧ ts = Ty.repls f 5 (args.take j) 0 d ∧ BL none (w.heap.size + 1 + 1) wb wr 5 nm iy v ts)) (fun i _ => n - (intOf i).toNat)
      case atStart => exact ⟨0, by omega, rfl, Lib.hid ⟨_, [], rfl, by simp [Ty.repls], HBL0.out⟩⟩
      case round =>
        obtain ⟨j, hj, rfl, HBL⟩ := hrel
        obtain ⟨v, ts, hlen, hts, hbl⟩ := HBL.out
        subst hlen
        have hbwb : Below wb.heap.size wb wr := below_of_grown0 hbl.2.1
        have hbwr : Below w.heap.size w wr := hbb.trans (hbwb.mono hbb.size)
        have HBW := Lib.hid hbl
        have hltt0 := blk_lt' hbl.1
        clear HBL HBL0
        by_cases hjn : ts.length < n
        · obtain ⟨g, o, A', c', hj', rfl, hg1, hg2, e0, e1, e2, e3, ht⟩ := HV.out.at_ (KeepIn.of_below hbwr hB) hjn
          have hsg := Ty.size_get ts.length hj'
          have hdg := Ty.depth_get ts.length hj'
          have HTK : Hid (ts ++ [args[ts.length].repl f (d + bindI 5 ts.length)] = Ty.repls f 5 (args.take (ts.length + 1)) 0 d) := Lib.hid (by rw [Ty.repls_take _ _ _ _ _ hj', ← hts, Nat.zero_add])
          have HNJ := Lib.hid (Ty.nar_get HNAR.out ts.length hj')
          have HOJ := Lib.hid (Ty.ok_get HOKS.out ts.length hj')
          have HT := Lib.hid ht
          have hbq0 := bindI_le 5 ts.length
          have HBND := Lib.hid (fun (W : World) => c_tbinders 5 nm ix (.slice (some ⟨g, o, none⟩) n c0) ts.length W)
          clear ht hts
          generalize args[ts.length] = te at *
          generalize bindI 5 ts.length = bq at *
          obtain ⟨hbq0, hbq1⟩ := hbq0
          have hwrap : IntKind.i64.wrap (d + bq) = d + bq := IntWalk.i64_in _ (by omega)
          have HTB0 := Lib.hid ((hbwb.block w.heap.size (by omega)).trans HTB.out)
          have HBQ : Hid (∀ W : World, W = wr.alloc (.cells #[.int .i64 te.kind, .string te.name, .int .i64 te.index, .slice A' te.args.length c'] 25) → BL none (w.heap.size + 1 + 1) wb W 5 nm iy v ts ∧ (W.cell? ⟨wr.heap.size, 0, none⟩ = some (.int .i64 te.kind) ∧ W.cell? ⟨wr.heap.size, 1, none⟩ = some (.string te.name) ∧ W.cell? ⟨wr.heap.size, 2, none⟩ = some (.int .i64 te.index) ∧ W.cell? ⟨wr.heap.size, 3, none⟩ = some (.slice A' te.args.length c')) ∧ (W.cell? ⟨w.heap.size, 0, none⟩ = some (.int .i64 5) ∧ W.cell? ⟨w.heap.size, 1, none⟩ = some (.string nm) ∧ W.cell? ⟨w.heap.size, 2, none⟩ = some (.int .i64 ix) ∧ W.cell? ⟨w.heap.size, 3, none⟩ = some (.slice (some ⟨g, o, none⟩) n c0)) ∧ Below wr.heap.size wr W ∧ wr.heap.size < W.heap.size) := Lib.hid (fun W hW => by
            subst hW
            exact ⟨HBW.out.alloc _, box_alloc _ _ _ _ _ _, (box_frozen (blk_old HTB0.out)).1, below_new _ _, by simp⟩)
          go_wp2
          generalize hWq : wr.alloc _ = wq
          obtain ⟨hal, ⟨x0, x1, x2, x3⟩, ⟨y0, y1, y2, y3⟩, hbq, hlq⟩ := HBQ.out wq hWq.symm
          clear HBQ HBW hWq e0 e1 e2 e3 HTB0
          have hsq := hbq.size
          have HA := Lib.hid hal
          obtain ⟨A, c, rfl⟩ := hal.2.2.form
          have hltt := blk_lt' hal.1
          have hsgw := hal.2.1.size
          have HOG := Lib.hid hal.2.2.own_ge
          have b3 : wq.cell? ⟨w.heap.size + 1 + 1, 3, none⟩ = some (.slice A ts.length c) := hal.cell0.2.2.2
          obtain ⟨i0, hi0, hz0, hz1, hz2⟩ := info_parts info_Type
          have HI : Hid (i0.zero = some (.agg #[.int .i64 0, .string ⟨#[]⟩, .int .i64 0, .slice none 0 0]) ∧ i0.size = 4 ∧ i0.bytes = 56) := Lib.hid ⟨hz0, hz1, hz2⟩
          clear hz0 hz1 hz2
          have Hi0 := Lib.hid hi0
          clear hi0 hal
          go_region_law (first
            | (have _t := tok4; refine step_append_rd _ ?_ (.tmp 42) (.tmp 51) _ ?_ (w.heap.size + 1 + 1 + 1) 25 i0 (.agg #[.int .i64 0, .string ⟨#[]⟩, .int .i64 0, .slice none 0 0]) 4 56 Tryd.underlying23 Hi0.out HI.out.1 HI.out.2.1 HI.out.2.2 rfl ?_ (.slice A ts.length c) ts.length xs ?_ ?_ (w4.heap.size + 1) (some ⟨w4.heap.size, 0, none⟩) 1 1 [.int .i64 t1.kind, .string t1.name, .int .i64 t1.index, .slice A1 t1.args.length c1] ?_ ?_ ?_ ?_ ?_ ?_; rfl; rfl; omega; rfl; exact hown4; rfl; exact Rd.blk (cs := #[.int .i64 t1.kind, .string t1.name, .int .i64 t1.index, .slice A1 t1.args.length c1]) (blk_new w4 _) rfl (by omega); exact (by simp [Value.oneCell']); omega; go_size; intro v5 w5 hown5 hg5 hat5
               have hs5 := hg5.size
               have ht5 := (hg5.block (w.heap.size + 1 + 1) (by simp; omega) (fun e => by have := HOG.out (w.heap.size + 1 + 1) e.symm; omega)).trans (blk_old ht4)
               have q3 : w5.cell? ⟨w.heap.size + 1 + 1, 3, none⟩ = some (.slice A ts.length c) := by rw [cell_of_row w5 (w.heap.size + 1 + 1) 3 _ _ _ ht5]; rfl
               have q4 : w5.frozen? ⟨w.heap.size + 1 + 1, 3, none⟩ = false := by simp [World.frozen?, ht5]
               obtain ⟨A5, c5, rfl⟩ : ∃ A c, v5 = .slice A (ts.length + 1) c := by
                 rcases hown5.2 with ⟨_, h0⟩ | ⟨g, cap, cur, rfl, _⟩
                 · omega
                 · exact ⟨_, _, rfl⟩
               have HFIN := Lib.hid (HA.out.round (row_none) (by omega) HG4.out hL4 HTY.out HEL.out hown4 hown5 hg5 hat5)
               clear hown5 hg5 hat5 ht5)
            | (go_simp; go_at_call 77; refine (HBND.out _).mono ?_; rintro e w3 ⟨rfl, hb3⟩
               have hs3 := hb3.size
               simp at hs3
               have hbq3 : Below wq.heap.size wq w3 := below_step (below_drew _) hb3
               obtain ⟨_, xx0, xx1, xx2, xx3⟩ := box_sk x0 x1 x2 x3 hlq w3 hbq3
               have q33 : w3.cell? ⟨w.heap.size + 1 + 1, 3, none⟩ = some (.slice A ts.length c) := (hbq3.cell (p := ⟨w.heap.size + 1 + 1, 3, none⟩) hltt).trans b3
               clear hb3)
            | (go_simp; go_at_call 65; refine (IH.out te _ _ L B Lb Bb _ (by omega) (HT.out.below (below_step hbq hbq3) (by have := hbwr.size; omega)) (by have := hbwr.size; omega) (by have := hbwr.size; omega) HNJ.out HOJ.out (by omega) (by omega) (HREP.out.grow (below_step hbwr (below_step hbq hbq3)))).mono ?_; rintro e w4 ⟨u1, rfl, hty1, hb4⟩
               have hg4 : wq.drew.grownBy w4 none := ⟨hb4.os.trans hbq3.os, hb4.tape.trans hbq3.tape, hb4.output.trans hbq3.output, Nat.le_trans hbq3.size hb4.size, fun b hb hne => (hb4.block b (by have := hbq3.size; simp at hb; omega)).trans (hbq3.block b hb)⟩
               have hL4 : wq.heap.size ≤ w3.heap.size := hs3
               clear hb4
               generalize te.repl f (d + bq) = t1 at *
               have tok4 : True := trivial
               have HTY := Lib.hid hty1
               obtain ⟨A1, c1, hvv, _⟩ := hty1.args_
               subst hvv
               have hs4 := hg4.size
               simp at hs4
               have hlt4 : w.heap.size + 1 + 1 < w4.heap.size := by omega
               have ht4 := HA.out.box4 (row_none) hg4
               have q43 : w4.cell? ⟨w.heap.size + 1 + 1, 3, none⟩ = some (.slice A ts.length c) := by rw [cell_of_row w4 (w.heap.size + 1 + 1) 3 _ _ _ ht4]; rfl
               obtain ⟨xs, hown4, hel4⟩ := HA.out.acc4 (row_none) hg4 (.cells #[.int .i64 t1.kind, .string t1.name, .int .i64 t1.index, .slice A1 t1.args.length c1] 25)
               have HEL := Lib.hid hel4
               have HG4 := Lib.hid hg4
               clear hel4 hty1 hg4
               ))
          all_goals
            clear HEL HG4 HTY hown4 q43 ht4 HA
            go_wp2
            go_roundw
            case rel => exact ⟨ts.length + 1, by omega, by go_num, Lib.hid ⟨_, _, by simp, HTK.out, HFIN.out⟩⟩
            case measure => simp [intOf]; omega
        · obtain ⟨Av, cv, rfl⟩ := hbl.2.2.form
          have hjl : ts.length = n := by omega
          have htt : ts = Ty.repls f 5 args 0 d := by rw [hts, hjl, ← Hn.out, List.take_length]
          have hrr : wr.heap[w.heap.size + 1]? = some (.cells #[.int .i64 0, .string ⟨#[]⟩, .int .i64 0, .slice none 0 0] 25 (0, 0)) := (hbl.2.1.block _ (by omega) (by simp)).trans HRB.out
          obtain ⟨⟨r0, r1, r2, r3⟩, f0, f1, f2, f3⟩ := box_frozen hrr
          obtain ⟨y0, y1, y2, y3⟩ := hbl.cell0
          have HFB := Lib.hid (fin_box hbb hsb hbl hrr)
          have HEQ2 : Hid (T = ⟨5, nm, iy, ts⟩) := Lib.hid (by rw [htt]; exact HEQ.out)
          clear htt hts hbl hrr hjl
          go_wp2
          generalize hWF : (((wr.setCell _ _).setCell _ _).setCell _ _).setCell _ _ = WF
          obtain ⟨hfin, hbel, z0, z1, z2, z3⟩ := HFB.out WF hWF.symm
          clear hWF
          exact bodyPost_ret (v := .agg #[.int .i64 5, .string nm, .int .i64 iy, .slice Av ts.length cv]) (by simp [results, Tryd.results65, go_sem, z0, z1, z2, z3]) rfl ⟨_, rfl, by rw [HEQ2.out]; exact hfin.out, hbel⟩
  · have hk5' : (k == 5) = false := by rw [beq_eq_false_iff_ne]; exact hk5
    have HEQ := Lib.hid (HR3.out hk5)
    clear HR1 HR2 HR3 hk5
    go_enter Tryd.func65, Tryd.ntmps65
    go_wp2
    generalize hW0 : ((w.alloc _).alloc _).alloc _ = W0
    obtain ⟨wb, hbb, hsb, htb, hrb, hbl0⟩ := HX0.out W0 hW0.symm
    have HBL0 := Lib.hid hbl0
    have HRB := Lib.hid hrb
    have HTB := Lib.hid htb
    clear hW0 HX0 hbl0 hrb htb
    generalize hiy : ix = iy at HBL0 HEQ
    clear hk5' hiy
    go_loopw [36] (fun i wr => ∃ j : Nat, j ≤ n ∧ i = .int .i64 j ∧ Hid (∃ v ts, ts.length = j ∧ ts = Ty.repls f k (args.take j) 0 d ∧ BL none (w.heap.size + 1 + 1) wb wr k nm iy v ts)) (fun i _ => n - (intOf i).toNat)
    case atStart => exact ⟨0, by omega, rfl, Lib.hid ⟨_, [], rfl, by simp [Ty.repls], HBL0.out⟩⟩
    case round =>
      obtain ⟨j, hj, rfl, HBL⟩ := hrel
      obtain ⟨v, ts, hlen, hts, hbl⟩ := HBL.out
      subst hlen
      have hbwb : Below wb.heap.size wb wr := below_of_grown0 hbl.2.1
      have hbwr : Below w.heap.size w wr := hbb.trans (hbwb.mono hbb.size)
      have HBW := Lib.hid hbl
      have hltt0 := blk_lt' hbl.1
      clear HBL HBL0
      by_cases hjn : ts.length < n
      · obtain ⟨g, o, A', c', hj', rfl, hg1, hg2, e0, e1, e2, e3, ht⟩ := HV.out.at_ (KeepIn.of_below hbwr hB) hjn
        have hsg := Ty.size_get ts.length hj'
        have hdg := Ty.depth_get ts.length hj'
        have HTK : Hid (ts ++ [args[ts.length].repl f (d + bindI k ts.length)] = Ty.repls f k (args.take (ts.length + 1)) 0 d) := Lib.hid (by rw [Ty.repls_take _ _ _ _ _ hj', ← hts, Nat.zero_add])
        have HNJ := Lib.hid (Ty.nar_get HNAR.out ts.length hj')
        have HOJ := Lib.hid (Ty.ok_get HOKS.out ts.length hj')
        have HT := Lib.hid ht
        have hbq0 := bindI_le k ts.length
        have HBND := Lib.hid (fun (W : World) => c_tbinders k nm ix (.slice (some ⟨g, o, none⟩) n c0) ts.length W)
        clear ht hts
        generalize args[ts.length] = te at *
        generalize bindI k ts.length = bq at *
        obtain ⟨hbq0, hbq1⟩ := hbq0
        have hwrap : IntKind.i64.wrap (d + bq) = d + bq := IntWalk.i64_in _ (by omega)
        have HTB0 := Lib.hid ((hbwb.block w.heap.size (by omega)).trans HTB.out)
        have HBQ : Hid (∀ W : World, W = wr.alloc (.cells #[.int .i64 te.kind, .string te.name, .int .i64 te.index, .slice A' te.args.length c'] 25) → BL none (w.heap.size + 1 + 1) wb W k nm iy v ts ∧ (W.cell? ⟨wr.heap.size, 0, none⟩ = some (.int .i64 te.kind) ∧ W.cell? ⟨wr.heap.size, 1, none⟩ = some (.string te.name) ∧ W.cell? ⟨wr.heap.size, 2, none⟩ = some (.int .i64 te.index) ∧ W.cell? ⟨wr.heap.size, 3, none⟩ = some (.slice A' te.args.length c')) ∧ (W.cell? ⟨w.heap.size, 0, none⟩ = some (.int .i64 k) ∧ W.cell? ⟨w.heap.size, 1, none⟩ = some (.string nm) ∧ W.cell? ⟨w.heap.size, 2, none⟩ = some (.int .i64 ix) ∧ W.cell? ⟨w.heap.size, 3, none⟩ = some (.slice (some ⟨g, o, none⟩) n c0)) ∧ Below wr.heap.size wr W ∧ wr.heap.size < W.heap.size) := Lib.hid (fun W hW => by
          subst hW
          exact ⟨HBW.out.alloc _, box_alloc _ _ _ _ _ _, (box_frozen (blk_old HTB0.out)).1, below_new _ _, by simp⟩)
        go_wp2
        generalize hWq : wr.alloc _ = wq
        obtain ⟨hal, ⟨x0, x1, x2, x3⟩, ⟨y0, y1, y2, y3⟩, hbq, hlq⟩ := HBQ.out wq hWq.symm
        clear HBQ HBW hWq e0 e1 e2 e3 HTB0
        have hsq := hbq.size
        have HA := Lib.hid hal
        obtain ⟨A, c, rfl⟩ := hal.2.2.form
        have hltt := blk_lt' hal.1
        have hsgw := hal.2.1.size
        have HOG := Lib.hid hal.2.2.own_ge
        have b3 : wq.cell? ⟨w.heap.size + 1 + 1, 3, none⟩ = some (.slice A ts.length c) := hal.cell0.2.2.2
        obtain ⟨i0, hi0, hz0, hz1, hz2⟩ := info_parts info_Type
        have HI : Hid (i0.zero = some (.agg #[.int .i64 0, .string ⟨#[]⟩, .int .i64 0, .slice none 0 0]) ∧ i0.size = 4 ∧ i0.bytes = 56) := Lib.hid ⟨hz0, hz1, hz2⟩
        clear hz0 hz1 hz2
        have Hi0 := Lib.hid hi0
        clear hi0 hal
        go_region_law (first
          | (have _t := tok4; refine step_append_rd _ ?_ (.tmp 42) (.tmp 51) _ ?_ (w.heap.size + 1 + 1 + 1) 25 i0 (.agg #[.int .i64 0, .string ⟨#[]⟩, .int .i64 0, .slice none 0 0]) 4 56 Tryd.underlying23 Hi0.out HI.out.1 HI.out.2.1 HI.out.2.2 rfl ?_ (.slice A ts.length c) ts.length xs ?_ ?_ (w4.heap.size + 1) (some ⟨w4.heap.size, 0, none⟩) 1 1 [.int .i64 t1.kind, .string t1.name, .int .i64 t1.index, .slice A1 t1.args.length c1] ?_ ?_ ?_ ?_ ?_ ?_; rfl; rfl; omega; rfl; exact hown4; rfl; exact Rd.blk (cs := #[.int .i64 t1.kind, .string t1.name, .int .i64 t1.index, .slice A1 t1.args.length c1]) (blk_new w4 _) rfl (by omega); exact (by simp [Value.oneCell']); omega; go_size; intro v5 w5 hown5 hg5 hat5
             have hs5 := hg5.size
             have ht5 := (hg5.block (w.heap.size + 1 + 1) (by simp; omega) (fun e => by have := HOG.out (w.heap.size + 1 + 1) e.symm; omega)).trans (blk_old ht4)
             have q3 : w5.cell? ⟨w.heap.size + 1 + 1, 3, none⟩ = some (.slice A ts.length c) := by rw [cell_of_row w5 (w.heap.size + 1 + 1) 3 _ _ _ ht5]; rfl
             have q4 : w5.frozen? ⟨w.heap.size + 1 + 1, 3, none⟩ = false := by simp [World.frozen?, ht5]
             obtain ⟨A5, c5, rfl⟩ : ∃ A c, v5 = .slice A (ts.length + 1) c := by
               rcases hown5.2 with ⟨_, h0⟩ | ⟨g, cap, cur, rfl, _⟩
               · omega
               · exact ⟨_, _, rfl⟩
             have HFIN := Lib.hid (HA.out.round (row_none) (by omega) HG4.out hL4 HTY.out HEL.out hown4 hown5 hg5 hat5)
             clear hown5 hg5 hat5 ht5)
          | (go_simp; go_at_call 77; refine (HBND.out _).mono ?_; rintro e w3 ⟨rfl, hb3⟩
             have hs3 := hb3.size
             simp at hs3
             have hbq3 : Below wq.heap.size wq w3 := below_step (below_drew _) hb3
             obtain ⟨_, xx0, xx1, xx2, xx3⟩ := box_sk x0 x1 x2 x3 hlq w3 hbq3
             have q33 : w3.cell? ⟨w.heap.size + 1 + 1, 3, none⟩ = some (.slice A ts.length c) := (hbq3.cell (p := ⟨w.heap.size + 1 + 1, 3, none⟩) hltt).trans b3
             clear hb3)
          | (go_simp; go_at_call 65; refine (IH.out te _ _ L B Lb Bb _ (by omega) (HT.out.below (below_step hbq hbq3) (by have := hbwr.size; omega)) (by have := hbwr.size; omega) (by have := hbwr.size; omega) HNJ.out HOJ.out (by omega) (by omega) (HREP.out.grow (below_step hbwr (below_step hbq hbq3)))).mono ?_; rintro e w4 ⟨u1, rfl, hty1, hb4⟩
             have hg4 : wq.drew.grownBy w4 none := ⟨hb4.os.trans hbq3.os, hb4.tape.trans hbq3.tape, hb4.output.trans hbq3.output, Nat.le_trans hbq3.size hb4.size, fun b hb hne => (hb4.block b (by have := hbq3.size; simp at hb; omega)).trans (hbq3.block b hb)⟩
             have hL4 : wq.heap.size ≤ w3.heap.size := hs3
             clear hb4
             generalize te.repl f (d + bq) = t1 at *
             have tok4 : True := trivial
             have HTY := Lib.hid hty1
             obtain ⟨A1, c1, hvv, _⟩ := hty1.args_
             subst hvv
             have hs4 := hg4.size
             simp at hs4
             have hlt4 : w.heap.size + 1 + 1 < w4.heap.size := by omega
             have ht4 := HA.out.box4 (row_none) hg4
             have q43 : w4.cell? ⟨w.heap.size + 1 + 1, 3, none⟩ = some (.slice A ts.length c) := by rw [cell_of_row w4 (w.heap.size + 1 + 1) 3 _ _ _ ht4]; rfl
             obtain ⟨xs, hown4, hel4⟩ := HA.out.acc4 (row_none) hg4 (.cells #[.int .i64 t1.kind, .string t1.name, .int .i64 t1.index, .slice A1 t1.args.length c1] 25)
             have HEL := Lib.hid hel4
             have HG4 := Lib.hid hg4
             clear hel4 hty1 hg4
             ))
        all_goals
          clear HEL HG4 HTY hown4 q43 ht4 HA
          go_wp2
          go_roundw
          case rel => exact ⟨ts.length + 1, by omega, by go_num, Lib.hid ⟨_, _, by simp, HTK.out, HFIN.out⟩⟩
          case measure => simp [intOf]; omega
      · obtain ⟨Av, cv, rfl⟩ := hbl.2.2.form
        have hjl : ts.length = n := by omega
        have htt : ts = Ty.repls f k args 0 d := by rw [hts, hjl, ← Hn.out, List.take_length]
        have hrr : wr.heap[w.heap.size + 1]? = some (.cells #[.int .i64 0, .string ⟨#[]⟩, .int .i64 0, .slice none 0 0] 25 (0, 0)) := (hbl.2.1.block _ (by omega) (by simp)).trans HRB.out
        obtain ⟨⟨r0, r1, r2, r3⟩, f0, f1, f2, f3⟩ := box_frozen hrr
        obtain ⟨y0, y1, y2, y3⟩ := hbl.cell0
        have HFB := Lib.hid (fin_box hbb hsb hbl hrr)
        have HEQ2 : Hid (T = ⟨k, nm, iy, ts⟩) := Lib.hid (by rw [htt]; exact HEQ.out)
        clear htt hts hbl hrr hjl
        go_wp2
        generalize hWF : (((wr.setCell _ _).setCell _ _).setCell _ _).setCell _ _ = WF
        obtain ⟨hfin, hbel, z0, z1, z2, z3⟩ := HFB.out WF hWF.symm
        clear hWF
        exact bodyPost_ret (v := .agg #[.int .i64 k, .string nm, .int .i64 iy, .slice Av ts.length cv]) (by simp [results, Tryd.results65, go_sem, z0, z1, z2, z3]) rfl ⟨_, rfl, by rw [HEQ2.out]; exact hfin.out, hbel⟩
end Go.Proofs.YtdbflfakocaapaaDoor
