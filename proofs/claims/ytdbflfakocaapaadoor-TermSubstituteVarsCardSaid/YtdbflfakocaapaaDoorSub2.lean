/- Contracts of Substitute and Instantiate. -/
import Derived.Test.YtdbflfakocaapaaDoorRepl
namespace Go.Proofs.YtdbflfakocaapaaDoor
open Go.RowKit
attribute [local go_sem ↓] Go.wp_at_zero Go.wp_at_succ

def fSub (b : Ty) (ix d : Int) : Ty ⊕ Int := if ix = d then .inl b else if d < ix then .inr (ix - 1) else .inr ix
def fInst (l : List Ty) (ix d : Int) : Ty ⊕ Int := if d ≤ ix then match l[(ix - d).toNat]? with
    | some t => .inl t
    | none => .inr ix
  else .inr ix
theorem fin_boxg {w w5 : World} {rb : Nat} {t : Ty} {k : Int} {nm : ByteArray} {ix : Int} {v x0 x1 x2 x3 : Value} (hw : w.heap.size ≤ rb) (hb : Below w.heap.size w w5) (hty : IsTy w5 (rb + 1) w5.heap.size t (.agg #[.int .i64 k, .string nm, .int .i64 ix, v])) (hr : w5.heap[rb]? = some (.cells #[x0, x1, x2, x3] 25 (0, 0))) :
    ∀ W : World, W = ((((w5.setCell ⟨rb, 0, none⟩ (.int .i64 k)).setCell ⟨rb, 1, none⟩ (.string nm)).setCell ⟨rb, 2, none⟩ (.int .i64 ix)).setCell ⟨rb, 3, none⟩ v) →
    Hid (IsTy W w.heap.size W.heap.size t (.agg #[.int .i64 k, .string nm, .int .i64 ix, v])) ∧ Below w.heap.size w W ∧ (W.cell? ⟨rb, 0, none⟩ = some (.int .i64 k) ∧ W.cell? ⟨rb, 1, none⟩ = some (.string nm) ∧ W.cell? ⟨rb, 2, none⟩ = some (.int .i64 ix) ∧ W.cell? ⟨rb, 3, none⟩ = some (v)) := by
  rintro W rfl
  obtain ⟨s1, s2, s3⟩ := set4 (.int .i64 k) (.string nm) (.int .i64 ix) v hr
  exact ⟨Lib.hid (hty.keep (fun b h1 h2 => s2 b (by omega)) (by omega) (by rw [s3]; exact Nat.le_refl _)), ⟨hb.os, hb.tape, hb.output, by rw [s3]; exact hb.size, fun j hj => (s2 j (by omega)).trans (hb.block j hj)⟩, (box_frozen s1).1⟩

set_option maxHeartbeats 1000000 in
theorem c_sub1 (b : Ty) (A : Option Addr) (c g : Nat) (w : World) (Lb Bb : Nat) (hbox : w.heap[g]? = some (.cells #[.int .i64 b.kind, .string b.name, .int .i64 b.index, .slice A b.args.length c] 25 (0, 0))) (hty : IsTy w Lb Bb b (.agg #[.int .i64 b.kind, .string b.name, .int .i64 b.index, .slice A b.args.length c])) (hBb : Bb ≤ w.heap.size) (hnar : b.nar) (hsz : b.size ≤ 2 ^ 60) :
    RepOk 66 #[.pointer (some ⟨g, 0, none⟩)] (fSub b) w Lb Bb := by
  intro W ix d hW hix hd0 hd1
  have hlt := blk_lt' hbox
  obtain ⟨⟨y0, y1, y2, y3⟩, _⟩ := box_frozen ((hW.block g hlt).trans hbox)
  have HY := Lib.hid (And.intro y0 (And.intro y1 (And.intro y2 y3)))
  have HTY := Lib.hid (hty.below hW hBb)
  have HNR := Lib.hid hnar
  clear hbox hty hnar y0 y1 y2 y3
  obtain ⟨hi0, hi1⟩ := hix
  by_cases h1 : ix = d
  · have HF : Hid (fSub b ix d = .inl b) := Lib.hid (by simp [fSub, h1])
    have h1' : (ix == d) = true := by rw [beq_iff_eq]; exact h1
    clear h1
    go_enter Tryd.func66, Tryd.ntmps66
    go_wp2
    go_returns
    exact ⟨Below.refl _ _, .inl ⟨b, g, 0, A, c, HF.out, rfl, HY.out.1, HY.out.2.1, HY.out.2.2.1, HY.out.2.2.2, HTY.out, HNR.out, hsz⟩⟩
  have h1' : (ix == d) = false := by rw [beq_eq_false_iff_ne]; exact h1
  by_cases h2 : d < ix
  · have HF : Hid (fSub b ix d = .inr (ix - 1)) := Lib.hid (by simp [fSub, h1, h2])
    have hw : IntKind.i64.wrap (ix - 1) = ix - 1 := IntWalk.i64_in _ (by omega)
    clear h1
    go_enter Tryd.func66, Tryd.ntmps66
    go_wp2
    go_returns
    exact ⟨Below.refl _ _, .inr ⟨ix - 1, HF.out, ⟨by omega, by omega⟩, rfl⟩⟩
  · have HF : Hid (fSub b ix d = .inr ix) := Lib.hid (by simp [fSub, h1, h2])
    have h2' : ix ≤ d := by omega
    clear h1 h2
    go_enter Tryd.func66, Tryd.ntmps66
    go_wp2
    go_returns
    exact ⟨Below.refl _ _, .inr ⟨ix, HF.out, ⟨by omega, by omega⟩, rfl⟩⟩

set_option maxRecDepth 20000 in
set_option maxHeartbeats 1000000 in
theorem c_SubstituteD (t b : Ty) (w : World) (L B Lb Bb : Nat) (v vb : Value) (ht : IsTy w L B t v) (hb : IsTy w Lb Bb b vb) (hB : B ≤ w.heap.size) (hBb : Bb ≤ w.heap.size) (hnt : t.nar) (hnb : b.nar) (hok : t.ok) (hst : t.depth ≤ 2 ^ 60) (hsb : b.size ≤ 2 ^ 60) :
    Calls Tryd.prog 42 #[v, vb] w (NewTy (t.repl (fSub b) 0) w) := by
  have HT := Lib.hid ht
  have HB := Lib.hid hb
  have HNT := Lib.hid hnt
  have HNB := Lib.hid hnb
  have HOK := Lib.hid hok
  obtain ⟨A1, c1, rfl, _⟩ := ht.args_
  obtain ⟨A2, c2, rfl, _⟩ := hb.args_
  clear ht hb hnt hnb hok
  have hsz : Hid (t.depth ≤ 2 ^ 60 ∧ b.size ≤ 2 ^ 60) := Lib.hid ⟨hst, hsb⟩
  clear hst hsb
  have HW : Hid (∀ W : World, W = (((w.alloc (.cells #[.int .i64 t.kind, .string t.name, .int .i64 t.index, .slice A1 t.args.length c1] 25)).alloc (.cells #[.int .i64 b.kind, .string b.name, .int .i64 b.index, .slice A2 b.args.length c2] 25)).alloc (.cells #[.int .i64 0, .string ⟨#[]⟩, .int .i64 0, .slice none 0 0] 25)) →
      Below w.heap.size w W ∧ W.heap.size = w.heap.size + 1 + 1 + 1 ∧ W.heap[w.heap.size + 1 + 1]? = some (.cells #[.int .i64 0, .string ⟨#[]⟩, .int .i64 0, .slice none 0 0] 25 (0, 0)) ∧
      Calls Tryd.prog 65 #[.agg #[.int .i64 t.kind, .string t.name, .int .i64 t.index, .slice A1 t.args.length c1], .int .i64 0, .func (.func 66) #[] #[.pointer (some ⟨w.heap.size + 1, 0, none⟩)]] W (NewTy (t.repl (fSub b) 0) W)) := Lib.hid (fun W hW => by
    subst hW
    have hbel := below_step (below_step (below_new w (.cells #[.int .i64 t.kind, .string t.name, .int .i64 t.index, .slice A1 t.args.length c1] 25)) (below_new _ (.cells #[.int .i64 b.kind, .string b.name, .int .i64 b.index, .slice A2 b.args.length c2] 25))) (below_new _ (.cells #[.int .i64 0, .string ⟨#[]⟩, .int .i64 0, .slice none 0 0] 25))
    have hs := hbel.size
    refine ⟨hbel, by simp, ?_, ?_⟩
    · have := blk_new ((w.alloc (.cells #[.int .i64 t.kind, .string t.name, .int .i64 t.index, .slice A1 t.args.length c1] 25)).alloc (.cells #[.int .i64 b.kind, .string b.name, .int .i64 b.index, .slice A2 b.args.length c2] 25)) (.cells #[.int .i64 0, .string ⟨#[]⟩, .int .i64 0, .slice none 0 0] 25)
      simpa using this
    · refine c_replace _ _ _ Tryd.call66 t.size t 0 _ L B Lb Bb _ (Nat.le_refl _) (HT.out.below hbel hB) (by omega) (by omega) HNT.out HOK.out (by omega) (by have := hsz.out.1; omega) ?_
      refine c_sub1 b A2 c2 _ _ Lb Bb (blk_old ?_) (HB.out.below hbel hBb) (by omega) HNB.out hsz.out.2
      have := blk_new (w.alloc (.cells #[.int .i64 t.kind, .string t.name, .int .i64 t.index, .slice A1 t.args.length c1] 25)) (.cells #[.int .i64 b.kind, .string b.name, .int .i64 b.index, .slice A2 b.args.length c2] 25)
      simpa using this)
  clear HT HB HNT HNB HOK hsz
  generalize t.repl (fSub b) 0 = T at *
  generalize t.kind = k1, t.name = n1, t.index = i1, t.args.length = l1, b.kind = k2, b.name = n2, b.index = i2, b.args.length = l2 at *
  go_enter Tryd.func42, Tryd.ntmps42
  go_wp2_with fail
  generalize hW0 : ((w.alloc _).alloc _).alloc _ = W0
  obtain ⟨hbW, hsW, hrW, hcall⟩ := HW.out W0 hW0.symm
  clear hW0 HW
  refine hcall.mono ?_
  rintro e w5 ⟨u, rfl, hty5, hb5⟩
  clear hcall
  have hs5 := hb5.size
  have hr5 := (hb5.block (w.heap.size + 1 + 1) (by omega)).trans hrW
  obtain ⟨⟨r0, r1, r2, r3⟩, f0, f1, f2, f3⟩ := box_frozen hr5
  obtain ⟨A5, c5, rfl, _⟩ := hty5.args_
  have HFB := Lib.hid (fin_boxg (by omega) (below_step hbW hb5) (hty5.more (by omega) (Nat.le_refl _)) hr5)
  clear hty5 hr5 hb5
  go_wp2
  generalize hWF : (((w5.setCell _ _).setCell _ _).setCell _ _).setCell _ _ = WF
  obtain ⟨hfin, hbel, z0, z1, z2, z3⟩ := HFB.out WF hWF.symm
  clear hWF
  exact bodyPost_ret (v := .agg #[.int .i64 T.kind, .string T.name, .int .i64 T.index, .slice A5 T.args.length c5]) (by simp [results, Tryd.results42, go_sem, z0, z1, z2, z3]) rfl ⟨_, rfl, hfin.out, hbel⟩
set_option maxHeartbeats 1000000 in
theorem c_inst1 (ls : List Ty) (A : Option Addr) (n c g : Nat) (w : World) (Lb Bb : Nat) (T : TypeId) (hbox : w.heap[g]? = some (.cells #[.slice A n c] T (0, 0))) (hty : IsTyl w Lb Bb ls (.slice A n c)) (hBb : Bb ≤ w.heap.size) (hl : ∀ t ∈ ls, t.nar ∧ t.size ≤ 2 ^ 60) (_ : n ≤ 2 ^ 40) :
    RepOk 68 #[.pointer (some ⟨g, 0, none⟩)] (fInst ls) w Lb Bb := by
  intro W ix d hW hix hd0 hd1
  have hlt := blk_lt' hbox
  have y0 : W.cell? ⟨g, 0, none⟩ = some (.slice A n c) := by rw [cell_of_row W g 0 _ _ _ ((hW.block g hlt).trans hbox)]; rfl
  have HTY := Lib.hid hty
  have HL := Lib.hid hl
  have hlen := Lib.hid hty.len_
  clear hbox hty hl
  obtain ⟨hi0, hi1⟩ := hix
  by_cases h1 : d ≤ ix
  · have hw : IntKind.i64.wrap (ix - d) = ix - d := IntWalk.i64_in _ (by omega)
    obtain ⟨q, hq⟩ := Int.eq_ofNat_of_zero_le (show 0 ≤ ix - d by omega)
    by_cases h2 : q < n
    · obtain ⟨g', o', A', c', hj', rfl, hg1, hg2, e0, e1, e2, e3, ht⟩ := HTY.out.at_ (KeepIn.of_below hW hBb) h2
      have HF : Hid (fInst ls ix d = .inl ls[q]) := Lib.hid (by unfold fInst; rw [if_pos h1, hq]; simp [hj'])
      have HLQ := Lib.hid (HL.out _ (List.getElem_mem hj'))
      have HT := Lib.hid ht
      clear ht
      generalize ls[q] = tq at *
      rw [hq] at hw
      have hq0 : (0 : Int) ≤ (q : Int) := by omega
      have hq1 : (q : Int) < (n : Int) := by omega
      have HE := Lib.hid (And.intro e0 (And.intro e1 (And.intro e2 e3)))
      clear e0 e1 e2 e3
      have hw2 : IntKind.i64.wrap (ix - d) = (q : Int) := by rw [hq]; exact hw
      clear hw hq
      go_enter Tryd.func68, Tryd.ntmps68
      go_wp2
      go_returns
      exact ⟨Below.refl _ _, .inl ⟨tq, g', o' + q * 4, A', c', HF.out, rfl, HE.out.1, HE.out.2.1, HE.out.2.2.1, HE.out.2.2.2, HT.out, HLQ.out.1, HLQ.out.2⟩⟩
    · have HF : Hid (fInst ls ix d = .inr ix) := Lib.hid (by unfold fInst; rw [if_pos h1, hq, List.getElem?_eq_none (by rw [hlen.out]; simp; omega)])
      rw [hq] at hw
      have hw2 : IntKind.i64.wrap (ix - d) = (q : Int) := by rw [hq]; exact hw
      have hq1 : ¬ (q : Int) < (n : Int) := by omega
      clear hw hq
      go_enter Tryd.func68, Tryd.ntmps68
      go_wp2
      go_returns
      exact ⟨Below.refl _ _, .inr ⟨ix, HF.out, ⟨by omega, by omega⟩, rfl⟩⟩
  · have HF : Hid (fInst ls ix d = .inr ix) := Lib.hid (by unfold fInst; rw [if_neg h1])
    go_enter Tryd.func68, Tryd.ntmps68
    go_wp2
    go_returns
    exact ⟨Below.refl _ _, .inr ⟨ix, HF.out, ⟨by omega, by omega⟩, rfl⟩⟩

set_option maxRecDepth 20000 in
set_option maxHeartbeats 1000000 in
theorem c_InstantiateD (t : Ty) (ls : List Ty) (w : World) (L B Lb Bb : Nat) (v vb : Value) (ht : IsTy w L B t v) (hb : IsTyl w Lb Bb ls vb) (hB : B ≤ w.heap.size) (hBb : Bb ≤ w.heap.size) (hnt : t.nar) (hl : ∀ t ∈ ls, t.nar ∧ t.size ≤ 2 ^ 60) (hn : ls.length ≤ 2 ^ 40) (hok : t.ok) (hst : t.depth ≤ 2 ^ 60) :
    Calls Tryd.prog 47 #[v, vb] w (NewTy (t.repl (fInst ls) 0) w) := by
  have HT := Lib.hid ht
  have HB := Lib.hid hb
  have HNT := Lib.hid hnt
  have HL := Lib.hid hl
  have HOK := Lib.hid hok
  obtain ⟨A1, c1, rfl, _⟩ := ht.args_
  obtain ⟨A2, c2, rfl, _⟩ := hb
  clear ht hnt hl hok
  have hsz : Hid (t.depth ≤ 2 ^ 60 ∧ ls.length ≤ 2 ^ 40) := Lib.hid ⟨hst, hn⟩
  clear hst hn
  have HW : Hid (∀ W : World, W = (((w.alloc (.cells #[.int .i64 t.kind, .string t.name, .int .i64 t.index, .slice A1 t.args.length c1] 25)).alloc (.cells #[.slice A2 ls.length c2] 23)).alloc (.cells #[.int .i64 0, .string ⟨#[]⟩, .int .i64 0, .slice none 0 0] 25)) →
      Below w.heap.size w W ∧ W.heap.size = w.heap.size + 1 + 1 + 1 ∧ W.heap[w.heap.size + 1 + 1]? = some (.cells #[.int .i64 0, .string ⟨#[]⟩, .int .i64 0, .slice none 0 0] 25 (0, 0)) ∧
      Calls Tryd.prog 65 #[.agg #[.int .i64 t.kind, .string t.name, .int .i64 t.index, .slice A1 t.args.length c1], .int .i64 0, .func (.func 68) #[] #[.pointer (some ⟨w.heap.size + 1, 0, none⟩)]] W (NewTy (t.repl (fInst ls) 0) W)) := Lib.hid (fun W hW => by
    subst hW
    have hbel := below_step (below_step (below_new w (.cells #[.int .i64 t.kind, .string t.name, .int .i64 t.index, .slice A1 t.args.length c1] 25)) (below_new _ (.cells #[.slice A2 ls.length c2] 23))) (below_new _ (.cells #[.int .i64 0, .string ⟨#[]⟩, .int .i64 0, .slice none 0 0] 25))
    have hs := hbel.size
    refine ⟨hbel, by simp, ?_, ?_⟩
    · have := blk_new ((w.alloc (.cells #[.int .i64 t.kind, .string t.name, .int .i64 t.index, .slice A1 t.args.length c1] 25)).alloc (.cells #[.slice A2 ls.length c2] 23)) (.cells #[.int .i64 0, .string ⟨#[]⟩, .int .i64 0, .slice none 0 0] 25)
      simpa using this
    · refine c_replace _ _ _ Tryd.call68 t.size t 0 _ L B Lb Bb _ (Nat.le_refl _) (HT.out.below hbel hB) (by omega) (by omega) HNT.out HOK.out (by omega) (by have := hsz.out.1; omega) ?_
      refine c_inst1 ls A2 _ c2 _ _ Lb Bb 23 (blk_old ?_) (HB.out.keep (KeepIn.of_below hbel hBb) (Nat.le_refl _) (Nat.le_refl _)) (by omega) HL.out hsz.out.2
      have := blk_new (w.alloc (.cells #[.int .i64 t.kind, .string t.name, .int .i64 t.index, .slice A1 t.args.length c1] 25)) (.cells #[.slice A2 ls.length c2] 23)
      simpa using this)
  clear HT HB HNT HL HOK hsz
  generalize t.repl (fInst ls) 0 = T at *
  generalize t.kind = k1, t.name = n1, t.index = i1, t.args.length = l1, ls.length = l2 at *
  go_enter Tryd.func47, Tryd.ntmps47
  go_wp2_with fail
  generalize hW0 : ((w.alloc _).alloc _).alloc _ = W0
  obtain ⟨hbW, hsW, hrW, hcall⟩ := HW.out W0 hW0.symm
  clear hW0 HW
  refine hcall.mono ?_
  rintro e w5 ⟨u, rfl, hty5, hb5⟩
  clear hcall
  have hs5 := hb5.size
  have hr5 := (hb5.block (w.heap.size + 1 + 1) (by omega)).trans hrW
  obtain ⟨⟨r0, r1, r2, r3⟩, f0, f1, f2, f3⟩ := box_frozen hr5
  obtain ⟨A5, c5, rfl, _⟩ := hty5.args_
  have HFB := Lib.hid (fin_boxg (by omega) (below_step hbW hb5) (hty5.more (by omega) (Nat.le_refl _)) hr5)
  clear hty5 hr5 hb5
  go_wp2
  generalize hWF : (((w5.setCell _ _).setCell _ _).setCell _ _).setCell _ _ = WF
  obtain ⟨hfin, hbel, z0, z1, z2, z3⟩ := HFB.out WF hWF.symm
  clear hWF
  exact bodyPost_ret (v := .agg #[.int .i64 T.kind, .string T.name, .int .i64 T.index, .slice A5 T.args.length c5]) (by simp [results, Tryd.results47, go_sem, z0, z1, z2, z3]) rfl ⟨_, rfl, hfin.out, hbel⟩
theorem c_Substitute (t b : Ty) (w : World) (L B Lb Bb : Nat) (v vb : Value) (ht : IsTy w L B t v) (hb : IsTy w Lb Bb b vb) (hB : B ≤ w.heap.size) (hBb : Bb ≤ w.heap.size) (hnt : t.nar) (hnb : b.nar) (hok : t.ok) (hst : t.size ≤ 2 ^ 60) (hsb : b.size ≤ 2 ^ 60) :
    Calls Tryd.prog 42 #[v, vb] w (NewTy (t.repl (fSub b) 0) w) :=
  c_SubstituteD t b w L B Lb Bb v vb ht hb hB hBb hnt hnb hok (Nat.le_trans (Ty.depth_le t) hst) hsb
end Go.Proofs.YtdbflfakocaapaaDoor
