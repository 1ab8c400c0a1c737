/- Contract of telmake.AnyTerm: it returns some term, of bounded size, in new memory. -/
import Derived.Test.YtdbflfakocaapaaDoorStream
import Derived.Test.YtdbflfakocaapaaDoorAcc
import Derived.Deep.DeepCutAuto
import Derived.Deep.CutBlock
import Derived.Deep.RegionHeld3
import Derived.Deep.RegionWith
namespace Go.Proofs.YtdbflfakocaapaaDoor
open Go.RowKit
attribute [local go_sem ↓] Go.wp_at_zero Go.wp_at_succ

/-- The variable gi holds n strings, in blocks below G. -/
def EnvN (gi n : Nat) (w : World) (G : Nat) : Prop := gi < G ∧ ∃ v xs, w.cell? ⟨gi, 0, none⟩ = some v ∧ IsStrs w G xs v ∧ xs.length = n
theorem EnvN.keep {gi n : Nat} {w w' : World} {G : Nat} (h : EnvN gi n w G) (hk : ∀ b, b < G → w'.heap[b]? = w.heap[b]?) : EnvN gi n w' G := by
  obtain ⟨h1, v, xs, hv, hs, hl⟩ := h
  exact ⟨h1, v, xs, (World.cell?_of_block (w := w) (hk _ h1)).trans hv, hs.keep hk (Nat.le_refl _), hl⟩
theorem EnvN.grown {gi n sb : Nat} {w w' : World} {G : Nat} (h : EnvN gi n w G) (hg : w.grownBy w' (some sb)) (h1 : G ≤ sb) (h2 : G ≤ w.heap.size) : EnvN gi n w' G :=
  h.keep fun b hb => hg.block b (by omega) (by intro e; injection e with e; omega)
/-- The variable's slice, and each of its strings. -/
theorem EnvN.open_ {gi n : Nat} {w : World} {G : Nat} (h : EnvN gi n w G) (hn : 0 < n) : ∃ g o c, w.cell? ⟨gi, 0, none⟩ = some (.slice (some ⟨g, o, none⟩) n c) ∧ g < G ∧ ∀ j, j < n → ∃ s, w.cell? ⟨g, o + j, none⟩ = some (.string s) := by
  obtain ⟨h1, v, xs, hv, ⟨A, c, rfl, hc, hm, _, _, hr⟩, hl⟩ := h
  obtain ⟨g, o, _, rfl, hg, _⟩ := hr.at_ (j := 0) (by omega)
  refine ⟨g, o, c, by rw [hv, hl], hg, fun j hj => ?_⟩
  obtain ⟨g', o', hj', hA, _, hcell⟩ := hr.at_ (j := j) (by omega)
  simp only [Option.some.injEq, Addr.mk.injEq] at hA
  obtain ⟨rfl, rfl, _⟩ := hA
  rw [strs_get] at hcell
  exact ⟨_, hcell⟩

theorem grown_trans' {a b c : World} {row : Option Nat} (h : a.grownBy b row) (k : b.grownBy c row) : a.grownBy c row :=
  ⟨k.os.trans h.os, k.tape.trans h.tape, k.output.trans h.output, Nat.le_trans h.size k.size, fun i hi hne => (k.block i (Nat.lt_of_lt_of_le hi h.size) hne).trans (h.block i hi hne)⟩
theorem grown_of_below {a b : World} {row : Option Nat} (h : Below a.heap.size a b) : a.grownBy b row := ⟨h.os, h.tape, h.output, h.size, fun i hi _ => h.block i hi⟩

theorem blk_lt' {w : World} {b : Nat} {o : Obj} (h : w.heap[b]? = some o) : b < w.heap.size := by
  rcases Nat.lt_or_ge b w.heap.size with hl | hl
  · exact hl
  · rw [Array.getElem?_eq_none hl] at h; cases h
/-- While AnyTerm runs: the variable t at block tb, the result's block rb, the stream at sb; nothing older has changed but the stream. -/
def AT (sb tb rb : Nat) (w W : World) : Prop := ∃ (k : Int) (nm : ByteArray) (ix : Int), inI k ∧ inI ix ∧ W.heap[tb]? = some (.cells #[.int .i64 k, .string nm, .int .i64 ix, .slice none 0 0] 25 (0, 0)) ∧
  W.heap[rb]? = some (.cells #[.int .i64 0, .string ⟨#[]⟩, .int .i64 0, .slice none 0 0] 25 (0, 0)) ∧ StreamOk W sb ∧ w.grownBy W (some sb)

theorem AT.step {sb tb rb : Nat} {w W W' : World} (h : AT sb tb rb w W) (hg : W.grownBy W' (some sb)) (hst : StreamOk W' sb) (h1 : tb ≠ sb) (h2 : rb ≠ sb) : AT sb tb rb w W' := by
  obtain ⟨k, nm, ix, hk, hix, ht, hr, _, hgw⟩ := h
  exact ⟨k, nm, ix, hk, hix, (hg.block _ (blk_lt' ht) (by simp; exact h1)).trans ht, (hg.block _ (blk_lt' hr) (by simp; exact h2)).trans hr, hst, grown_trans' hgw hg⟩
theorem AT.fields {sb tb rb : Nat} {w W : World} (h : AT sb tb rb w W) : ∃ (k : Int) (nm : ByteArray) (ix : Int), inI k ∧ inI ix ∧ W.cell? ⟨tb, 0, none⟩ = some (.int .i64 k) ∧ W.cell? ⟨tb, 1, none⟩ = some (.string nm) ∧ W.cell? ⟨tb, 2, none⟩ = some (.int .i64 ix) ∧ W.cell? ⟨tb, 3, none⟩ = some (.slice none 0 0) ∧
    W.frozen? ⟨tb, 0, none⟩ = false ∧ W.frozen? ⟨tb, 1, none⟩ = false ∧ W.frozen? ⟨tb, 2, none⟩ = false ∧ W.frozen? ⟨tb, 3, none⟩ = false ∧ tb < W.heap.size := by
  obtain ⟨k, nm, ix, hk, hix, ht, _⟩ := h
  refine ⟨k, nm, ix, hk, hix, ?_, ?_, ?_, ?_, ?_, ?_, ?_, ?_, blk_lt' ht⟩
  · rw [cell_of_row W tb 0 _ _ _ ht]; rfl
  · rw [cell_of_row W tb 1 _ _ _ ht]; rfl
  · rw [cell_of_row W tb 2 _ _ _ ht]; rfl
  · rw [cell_of_row W tb 3 _ _ _ ht]; rfl
  all_goals simp [World.frozen?, ht]
theorem AT.setc {sb tb rb : Nat} {w W : World} (h : AT sb tb rb w W) (h1 : sb < tb) (h2 : rb ≠ tb) (h3 : w.heap.size ≤ tb) (i : Nat) (u : Value)
    (hu : (i = 0 ∧ ∃ k, inI k ∧ u = .int .i64 k) ∨ (i = 1 ∧ ∃ nm, u = .string nm) ∨ (i = 2 ∧ ∃ ix, inI ix ∧ u = .int .i64 ix)) : AT sb tb rb w (W.setCell ⟨tb, i, none⟩ u) := by
  obtain ⟨k, nm, ix, hk, hix, ht, hr, hst, hgw⟩ := h
  have hr' : (W.setCell ⟨tb, i, none⟩ u).heap[rb]? = some (.cells #[.int .i64 0, .string ⟨#[]⟩, .int .i64 0, .slice none 0 0] 25 (0, 0)) := (Below.heap_setCell _ _ _ _ (by exact h2)).trans hr
  have hst' : StreamOk (W.setCell ⟨tb, i, none⟩ u) sb := hst.keep fun b hb => Below.heap_setCell _ _ _ _ (by show b ≠ tb; omega)
  have hgw' : w.grownBy (W.setCell ⟨tb, i, none⟩ u) (some sb) := ⟨hgw.os, hgw.tape, hgw.output, by have := hgw.size; simpa [World.setCell] using this, fun b hb hne => (Below.heap_setCell _ _ _ _ (by show b ≠ tb; omega)).trans (hgw.block b hb hne)⟩
  rcases hu with ⟨rfl, k', hk', rfl⟩ | ⟨rfl, nm', rfl⟩ | ⟨rfl, ix', hix', rfl⟩
  · exact ⟨k', nm, ix, hk', hix, by simp [World.setCell, Array.getElem?_modify, ht], hr', hst', hgw'⟩
  · exact ⟨k, nm', ix, hk, hix, by simp [World.setCell, Array.getElem?_modify, ht], hr', hst', hgw'⟩
  · exact ⟨k, nm, ix', hk, hix', by simp [World.setCell, Array.getElem?_modify, ht], hr', hst', hgw'⟩
theorem AT.drew {sb tb rb : Nat} {w W : World} (h : AT sb tb rb w W) : AT sb tb rb w W.drew := by
  obtain ⟨k, nm, ix, hk, hix, ht, hr, hst, hgw⟩ := h
  exact ⟨k, nm, ix, hk, hix, ht, hr, hst.keep (fun _ _ => rfl), ⟨hgw.os, hgw.tape, hgw.output, hgw.size, hgw.block⟩⟩
theorem AT.stream {sb tb rb : Nat} {w W : World} (h : AT sb tb rb w W) : StreamOk W sb := by obtain ⟨_, _, _, _, _, _, _, h, _⟩ := h; exact h
theorem AT.grown {sb tb rb : Nat} {w W : World} (h : AT sb tb rb w W) : w.grownBy W (some sb) := by obtain ⟨_, _, _, _, _, _, _, _, h⟩ := h; exact h

/-- While AnyTerm's loop runs: t's arguments are the terms ts. -/
def AL (N : Nat) (sb tb rb : Nat) (w W : World) (k : Int) (nm : ByteArray) (ix : Int) (v : Value) (ts : List Ty) : Prop := inI k ∧ inI ix ∧ W.heap[tb]? = some (.cells #[.int .i64 k, .string nm, .int .i64 ix, v] 25 (0, 0)) ∧
  W.heap[rb]? = some (.cells #[.int .i64 0, .string ⟨#[]⟩, .int .i64 0, .slice none 0 0] 25 (0, 0)) ∧ StreamOk W sb ∧ w.grownBy W (some sb) ∧ Acc W (tb + 1) (tb + 1) ts v ∧ Ty.oks ts ∧ Ty.sizes ts ≤ ts.length * N
theorem oks_snoc {ts : List Ty} {t : Ty} (h : Ty.oks ts) (ht : t.ok) : Ty.oks (ts ++ [t]) := by
  induction ts with
  | nil => simp only [List.nil_append]; unfold Ty.oks; exact ⟨ht, by unfold Ty.oks; trivial⟩
  | cons a l ih => simp only [List.cons_append]; unfold Ty.oks at h ⊢; exact ⟨h.1, ih h.2⟩
theorem sizes_snoc (ts : List Ty) (t : Ty) : Ty.sizes (ts ++ [t]) = Ty.sizes ts + t.size := by
  induction ts with
  | nil => simp [Ty.sizes]
  | cons a l ih => simp [Ty.sizes, ih]; omega
/-- One round's end: the new slice is stored. -/
theorem AL.next {N sb tb rb : Nat} {w W W5 : World} {k : Int} {nm : ByteArray} {ix : Int} {v v' : Value} {ts : List Ty} {t : Ty} (h : AL N sb tb rb w W k nm ix v ts) (hsb : sb < tb) (hrb : rb < tb) (hw : w.heap.size ≤ tb) (htok : t.ok) (hts : t.size ≤ N)
    (hst : StreamOk W5 sb) (hacc : Acc W5 (tb + 1) (tb + 1) (ts ++ [t]) v') (hb : ∀ b, b < W.heap.size → b ≠ sb → v.ownBlock ≠ some b → W5.heap[b]? = W.heap[b]?) (hf : W5.os = W.os ∧ W5.tape = W.tape ∧ W5.output = W.output ∧ W.heap.size ≤ W5.heap.size) :
    AL N sb tb rb w (W5.setCell ⟨tb, 3, none⟩ v') k nm ix v' (ts ++ [t]) := by
  obtain ⟨h1, h2, h3, h4, h5, h6, h7, h8, h9⟩ := h
  have hge := h7.own_ge
  have t5 := (hb tb (blk_lt' h3) (by omega) (fun e => by have := hge _ e; omega)).trans h3
  have r5 := (hb rb (blk_lt' h4) (by intro e; subst e; obtain ⟨A, n, c, k, xs, hh, _⟩ := h5; rw [hh] at h4; simp at h4) (fun e => by have := hge _ e; omega)).trans h4
  have hge' := hacc.own_ge
  refine ⟨h1, h2, by simp [World.setCell, Array.getElem?_modify, t5], (Below.heap_setCell _ _ _ _ (by show rb ≠ tb; omega)).trans r5, hst.keep fun b hb' => Below.heap_setCell _ _ _ _ (by show b ≠ tb; omega), ?_, ?_, oks_snoc h8 htok, ?_⟩
  · refine ⟨hf.1.trans h6.os, hf.2.1.trans h6.tape, hf.2.2.1.trans h6.output, by have := h6.size; simp [World.setCell]; omega, fun b hb' hne => ?_⟩
    rw [Below.heap_setCell _ _ _ _ (by show b ≠ tb; omega), hb b (by have := h6.size; omega) (fun e => hne (by rw [e])) (fun e => by have := hge _ e; omega)]
    exact h6.block b hb' hne
  · exact hacc.keep (by simp [World.setCell]) fun b hb' hh => Below.heap_setCell _ _ _ _ (by
      show b ≠ tb
      rcases hh with hh | hh
      · omega
      · have := hge' _ hh; omega)
  · rw [sizes_snoc]
    simp only [List.length_append, List.length_cons, List.length_nil, Nat.add_mul]
    omega

/-- A term has come back, in new memory; of what was there only the stream has changed. -/
def GenTy (N : Nat) (sb : Nat) (w : World) (e : Ending) (w' : World) : Prop := ∃ t v, e = .returned v ∧ IsTy w' w.heap.size w'.heap.size t v ∧ t.ok ∧ t.size ≤ N ∧ StreamOk w' sb ∧ w.grownBy w' (some sb)


set_option maxHeartbeats 4000000 in
theorem any_step (D : Nat) (ih : 0 < D → ∀ (w : World) (sb G : Nat), StreamOk w sb → EnvN 0 11 w G → G ≤ sb → Calls Tryd.prog 12 #[.pointer (some ⟨sb, 0, none⟩), .int .i64 ((D - 1 : Nat) : Int)] w (GenTy (9 ^ (D - 1)) sb w))
    (w : World) (sb G : Nat) (hst : StreamOk w sb) (hE : EnvN 0 11 w G) (hG : G ≤ sb) (hD : D ≤ 10) :
    Calls Tryd.prog 12 #[.pointer (some ⟨sb, 0, none⟩), .int .i64 D] w (GenTy (9 ^ D) sb w) := by
  have hsb := hst.lt
  have HE := Lib.hid hE; clear hE
  have HST := Lib.hid hst
  have IH := Lib.hid ih; clear ih
  go_enter Tryd.func12, Tryd.ntmps12
  go_wp2_with fail
  refine (c_Next 7 sb _ (hst.below ((Below.refl _ _).alloc (Nat.le_refl _) _) hsb) (by omega) (by omega)).mono ?_
  rintro e w1 ⟨k0, rfl, hk0, hk1, hst1, hg1⟩
  have hs1 := hg1.size
  simp at hs1
  have hgw1 : w.grownBy w1 (some sb) := grown_trans' (grown_of_below ((Below.refl _ _).alloc (Nat.le_refl _) _)) hg1
  have hrb : w1.heap[w.heap.size]? = some (.cells #[.int .i64 0, .string ⟨#[]⟩, .int .i64 0, .slice none 0 0] 25 (0, 0)) := (hg1.block _ (by simp) (by simp; omega)).trans (blk_new _ _)
  have HRB := Lib.hid hrb
  have HG1 := Lib.hid hgw1
  clear hst hg1 hrb hgw1
  have HST1 := Lib.hid hst1
  clear hst1
  go_wp2_with fail
  refine (c_Next 12 sb _ (HST1.out.below ((Below.refl _ _).alloc (Nat.le_refl _) _) (by omega)) (by omega) (by omega)).mono ?_
  rintro e w2 ⟨sw, rfl, hs0, hs2, hst2, hg2⟩
  have hs3 := hg2.size
  simp at hs3
  have hat : AT sb w1.heap.size w.heap.size w w2 := by
    refine ⟨k0, ⟨#[]⟩, 0, ⟨by omega, by omega⟩, ⟨by omega, by omega⟩, ?_, ?_, hst2, grown_trans' HG1.out (grown_trans' (grown_of_below ((Below.refl _ _).alloc (Nat.le_refl _) _)) hg2)⟩
    · exact (hg2.block _ (by simp) (by simp; omega)).trans (blk_new _ _)
    · exact (hg2.block _ (by simp; omega) (by simp; omega)).trans (blk_old HRB.out)
  clear hst2 hg2 HST1 HG1 HRB
  have HAT := Lib.hid hat
  clear hat
  generalize htb : w1.heap.size = tb at *
  have hlt1 : w.heap.size < tb := by omega
  clear htb
  go_upto_block 0 with (fail)
  go_cut [] (fun wx => AT sb tb w.heap.size w wx)
  case first =>
    have hne1 : tb ≠ sb := by omega
    have hne2 : w.heap.size ≠ sb := by omega
    have hne3 : w.heap.size ≠ tb := by omega
    by_cases s9 : sw = 9
    · subst s9
      go_wp2_with fail
      refine (c_Raw sb _ HAT.out.stream).mono ?_
      rintro e w3 ⟨k', rfl, hr0, hr1, hst3, hg3⟩
      have hat3 := HAT.out.step hg3 hst3 hne1 hne2
      obtain ⟨k, nm, ix, hk, hix, b0, b1, b2, b3, f0, f1, f2, f3, hltb⟩ := hat3.fields
      have HAT3 := Lib.hid hat3
      clear hst3 hg3 hat3
      go_wp2
      go_meet
      exact HAT3.out.setc (by omega) hne3 (by omega) 0 _ (.inl ⟨rfl, _, ⟨hr0, hr1⟩, rfl⟩)
    by_cases s10 : sw = 10
    · subst s10
      go_wp2_with fail
      refine (c_Raw sb _ HAT.out.stream).mono ?_
      rintro e w3 ⟨k', rfl, hr0, hr1, hst3, hg3⟩
      have hat3 := HAT.out.step hg3 hst3 hne1 hne2
      obtain ⟨k, nm, ix, hk, hix, b0, b1, b2, b3, f0, f1, f2, f3, hltb⟩ := hat3.fields
      have HAT3 := Lib.hid hat3
      clear hst3 hg3 hat3
      go_wp2
      go_meet
      exact HAT3.out.setc (by omega) hne3 (by omega) 2 _ (.inr (.inr ⟨rfl, _, ⟨hr0, hr1⟩, rfl⟩))
    by_cases s11 : sw = 11
    · subst s11
      go_wp2_with fail
      have hEW := HE.out.grown HAT.out.grown hG (by omega)
      obtain ⟨ga, oa, ca, hga, hgaG, hstr⟩ := hEW.open_ (by omega)
      have HSTR := Lib.hid hstr
      have HEW := Lib.hid hEW
      have hgl : 0 < G := HE.out.1
      clear hstr hEW
      go_region_with (first
          | (go_at_call 49; refine (c_Next 11 sb _ (HAT.out.drew.stream) (by omega) (by omega)).mono ?_; rintro e w3 ⟨r, rfl, hr0, hr1, hst3, hg3⟩
             have hat3 := HAT.out.drew.step hg3 hst3 hne1 hne2
             have hga3 := (World.cell?_of_block (a := ⟨0, 0, none⟩) (hg3.block 0 (by have := HAT.out.grown.size; simp; omega) (by simp; omega))).trans hga
             obtain ⟨rn, rfl⟩ := Int.eq_ofNat_of_zero_le hr0
             obtain ⟨sr, hsr⟩ := HSTR.out rn (by omega)
             have hsr3 := (World.cell?_of_block (a := ⟨ga, oa + rn, none⟩) (hg3.block ga (by have := HAT.out.grown.size; simp; omega) (by simp; omega))).trans hsr
             obtain ⟨k, nm, ix, hk, hix, b0, b1, b2, b3, f0, f1, f2, f3, hltb⟩ := hat3.fields
             have HAT3 := Lib.hid hat3
             have hrn : rn < 11 := by omega
             have hrni : (rn : Int) < 11 := by omega
             have hrni0 : (0 : Int) ≤ (rn : Int) := by omega
             clear hst3 hat3 hsr))
      all_goals
        go_wp2
        go_meet
        exact HAT3.out.setc (by omega) hne3 (by omega) 1 _ (.inr (.inl ⟨rfl, _, rfl⟩))
    · have e9 : (sw == 9) = false := by rw [beq_eq_false_iff_ne]; exact s9
      have e10 : (sw == 10) = false := by rw [beq_eq_false_iff_ne]; exact s10
      have e11 : (sw == 11) = false := by rw [beq_eq_false_iff_ne]; exact s11
      go_wp2
      go_meet
      exact HAT.out
  case rest =>
    have hne1 : tb ≠ sb := by omega
    have hne2 : w.heap.size ≠ sb := by omega
    have hne3 : w.heap.size ≠ tb := by omega
    clear HAT
    obtain ⟨k, nm, ix, hk, hix, b0, b1, b2, b3, f0, f1, f2, f3, hltb⟩ := hcut.fields
    have HAT := Lib.hid hcut
    clear hcut
    go_upto_if 35 with (fail)
    go_cut [] (fun wx => AT sb tb w.heap.size w wx)
    case first =>
      by_cases k5 : k = 5
      · have k5' : (k == 5) = true := by rw [k5]; rfl
        clear k5
        go_wp2_with fail
        refine (c_Next 4 sb _ HAT.out.stream (by omega) (by omega)).mono ?_
        rintro e w3 ⟨k', rfl, hr0, hr1, hst3, hg3⟩
        have hat3 := HAT.out.step hg3 hst3 hne1 hne2
        clear b0 b1 b2 b3 f0 f1 f2 f3 hltb
        obtain ⟨k2, nm2, ix2, hk2, hix2, b0, b1, b2, b3, f0, f1, f2, f3, hltb⟩ := hat3.fields
        have HAT3 := Lib.hid hat3
        clear hst3 hg3 hat3
        go_wp2
        go_meet
        exact HAT3.out.setc (by omega) hne3 (by omega) 2 _ (.inr (.inr ⟨rfl, _, ⟨by omega, by omega⟩, rfl⟩))
      · have k5' : (k == 5) = false := by rw [beq_eq_false_iff_ne]; exact k5
        go_wp2
        go_meet
        exact HAT.out
    case rest =>
      clear HAT b0 b1 b2 b3 f0 f1 f2 f3 hltb hk hix k nm ix
      obtain ⟨k, nm, ix, hk, hix, b0, b1, b2, b3, f0, f1, f2, f3, hltb⟩ := hcut.fields
      have HAT := Lib.hid hcut
      clear hcut
      go_upto_if 41 with (fail)
      go_cut [] (fun wx => AT sb tb w.heap.size w wx)
      case first =>
        by_cases k5 : k = 2
        · have k5' : (k == 2) = true := by rw [k5]; rfl
          clear k5 b0 b1 b2 b3 f0 f1 f2 f3 hltb hk hix nm ix
          go_wp2_with fail
          have hEW := HE.out.grown HAT.out.grown hG (by omega)
          obtain ⟨ga, oa, ca, hga, hgaG, hstr⟩ := hEW.open_ (by omega)
          have HSTR := Lib.hid hstr
          have HEW := Lib.hid hEW
          have hgl : 0 < G := HE.out.1
          clear hstr hEW
          go_region_with (first
              | (go_at_call 49; refine (c_Next 11 sb _ (HAT.out.drew.stream) (by omega) (by omega)).mono ?_; rintro e w3 ⟨r, rfl, hr0, hr1, hst3, hg3⟩
                 have hat3 := HAT.out.drew.step hg3 hst3 hne1 hne2
                 have hga3 := (World.cell?_of_block (a := ⟨0, 0, none⟩) (hg3.block 0 (by have := HAT.out.grown.size; simp; omega) (by simp; omega))).trans hga
                 obtain ⟨rn, rfl⟩ := Int.eq_ofNat_of_zero_le hr0
                 obtain ⟨sr, hsr⟩ := HSTR.out rn (by omega)
                 have hsr3 := (World.cell?_of_block (a := ⟨ga, oa + rn, none⟩) (hg3.block ga (by have := HAT.out.grown.size; simp; omega) (by simp; omega))).trans hsr
                 obtain ⟨k, nm, ix, hk, hix, b0, b1, b2, b3, f0, f1, f2, f3, hltb⟩ := hat3.fields
                 have HAT3 := Lib.hid hat3
                 have hrn : rn < 11 := by omega
                 have hrni : (rn : Int) < 11 := by omega
                 have hrni0 : (0 : Int) ≤ (rn : Int) := by omega
                 clear hst3 hat3 hsr))
          all_goals
            go_wp2
            go_meet
            exact HAT3.out.setc (by omega) hne3 (by omega) 1 _ (.inr (.inl ⟨rfl, _, rfl⟩))
        · have k5' : (k == 2) = false := by rw [beq_eq_false_iff_ne]; exact k5
          go_wp2
          go_meet
          exact HAT.out
      case rest =>
        clear HAT b0 b1 b2 b3 f0 f1 f2 f3 hltb hk hix k nm ix
        obtain ⟨k, nm, ix, hk, hix, b0, b1, b2, b3, f0, f1, f2, f3, hltb⟩ := hcut.fields
        have HAT := Lib.hid hcut
        clear hcut
        go_upto_block 1 with (fail)
        go_cut [6] (fun s6 wx => ∃ m : Nat, m ≤ 8 ∧ s6 = .int .i64 m ∧ AT sb tb w.heap.size w wx)
        case first =>
          by_cases k23 : k = 2 ∨ k = 3
          · rcases k23 with h | h
            all_goals
              subst h
              go_wp2_with fail
              refine (c_Next 3 sb _ HAT.out.stream (by omega) (by omega)).mono ?_
              rintro e w3 ⟨r, rfl, hr0, hr1, hst3, hg3⟩
              have HAT3 := Lib.hid (HAT.out.step hg3 hst3 hne1 hne2)
              clear hst3 hg3
              obtain ⟨rn, rfl⟩ := Int.eq_ofNat_of_zero_le hr0
              go_wp2
              go_meet
              exact ⟨rn, by omega, rfl, HAT3.out⟩
          have e2 : (k == 2) = false := by rw [beq_eq_false_iff_ne]; intro e; exact k23 (.inl e)
          have e3 : (k == 3) = false := by rw [beq_eq_false_iff_ne]; intro e; exact k23 (.inr e)
          by_cases k46 : k = 4 ∨ k = 6
          · rcases k46 with h | h
            all_goals
              subst h
              go_wp2
              go_meet
              exact ⟨2, by omega, rfl, HAT.out⟩
          · have e4 : (k == 4) = false := by rw [beq_eq_false_iff_ne]; intro e; exact k46 (.inl e)
            have e6 : (k == 6) = false := by rw [beq_eq_false_iff_ne]; intro e; exact k46 (.inr e)
            go_wp2
            go_meet
            exact ⟨0, by omega, rfl, HAT.out⟩
        case rest =>
          clear HAT b0 b1 b2 b3 f0 f1 f2 f3 hltb hk hix nm ix
          obtain ⟨m, hm, rfl, hcut⟩ := hcut
          have HAT := Lib.hid hcut
          clear hcut
          go_wp2_with fail
          refine (c_Next 10 sb _ HAT.out.stream (by omega) (by omega)).mono ?_
          rintro e w3 ⟨r, rfl, hr0, hr1, hst3, hg3⟩
          have HAT3 := Lib.hid (HAT.out.step hg3 hst3 hne1 hne2)
          clear hst3 hg3 HAT
          go_upto_if 62 with (fail)
          go_cut [6] (fun s6 wx => ∃ m : Nat, m ≤ 8 ∧ s6 = .int .i64 m ∧ AT sb tb w.heap.size w wx)
          case first =>
            by_cases r9 : r = 9
            · subst r9
              go_wp2_with fail
              refine (c_Next 9 sb _ HAT3.out.stream (by omega) (by omega)).mono ?_
              rintro e w4 ⟨r, rfl, hr0, hr1, hst4, hg4⟩
              have HAT4 := Lib.hid (HAT3.out.step hg4 hst4 hne1 hne2)
              clear hst4 hg4 HAT3
              obtain ⟨rn, rfl⟩ := Int.eq_ofNat_of_zero_le hr0
              go_wp2
              go_meet
              exact ⟨rn, by omega, rfl, HAT4.out⟩
            · have e9 : (r == 9) = false := by rw [beq_eq_false_iff_ne]; exact r9
              go_wp2
              go_meet
              exact ⟨m, hm, rfl, HAT3.out⟩
          case rest =>
            clear HAT3 hr0 hr1
            obtain ⟨m2, hm2, rfl, hcut⟩ := hcut
            have HAT := Lib.hid hcut
            clear hcut hm
            obtain ⟨k, nm, ix, hk, hix, ht, hr, hst, hgw⟩ := HAT.out
            have HAL0 : Hid (∃ (nm : ByteArray) (k ix : Int) (v : Value) (ts : List Ty), ts.length = 0 ∧ AL (9 ^ (D - 1)) sb tb w.heap.size w wc k nm ix v ts) := Lib.hid ⟨nm, k, ix, .slice none 0 0, [], rfl, hk, hix, ht, hr, hst, hgw, Acc.nil _ _ _, by unfold Ty.oks; trivial, by simp [Ty.sizes]⟩
            clear HAT hk hix ht hr hst hgw
            go_upto_block 2 with (fail)
            go_cut [] (fun wx => Hid (∃ (nm : ByteArray) (k ix : Int) (v : Value) (ts : List Ty), 1 + Ty.sizes ts ≤ 9 ^ D ∧ AL (9 ^ (D - 1)) sb tb w.heap.size w wx k nm ix v ts))
            case first =>
             go_wp2
             go_loopw [7] (fun i wr => ∃ j : Nat, j ≤ m2 ∧ i = .int .i64 j ∧ Hid (D = 0 → j = 0) ∧ Hid (∃ (nm : ByteArray) (k ix : Int) (v : Value) (ts : List Ty), ts.length = j ∧ AL (9 ^ (D - 1)) sb tb w.heap.size w wr k nm ix v ts)) (fun i _ => m2 - (intOf i).toNat)
             case atStart => exact ⟨0, by omega, rfl, Lib.hid (fun _ => rfl), HAL0⟩
             case round =>
               clear HAL0
               obtain ⟨j, hj, rfl, HD0, HAL⟩ := hrel
               obtain ⟨nm, k, ix, v, ts, hlen, hal⟩ := HAL.out
               have HA := Lib.hid hal
               subst hlen
               obtain ⟨A, c, rfl⟩ := hal.2.2.2.2.2.2.1.form
               obtain ⟨hk, hix, ht, hr, hst, hgw, hacc, hoks, hszs⟩ := hal
               have HACC := Lib.hid hacc
               have hsw := hgw.size
               have hltt := blk_lt' ht
               have HOG := Lib.hid hacc.own_ge
               have b3 : wr.cell? ⟨tb, 3, none⟩ = some (.slice A ts.length c) := by rw [cell_of_row wr tb 3 _ _ _ ht]; rfl
               by_cases hjm : ts.length < m2 ∧ 0 < D
               · obtain ⟨hjm, hDp⟩ := hjm
                 have hd1 : (0 : Int) < (D : Int) := by omega
                 have HSTR := Lib.hid (hst.keep (w' := wr.drew) (fun _ _ => rfl))
                 have HEW := Lib.hid ((HE.out.grown hgw hG (by omega)).keep (w' := wr.drew) (fun _ _ => rfl))
                 have HTB := Lib.hid ht
                 have HK := Lib.hid (fun (w4 : World) (hg4 : wr.drew.grownBy w4 (some sb)) => hacc.grown (W' := w4) (sb := sb) ⟨hg4.os, hg4.tape, hg4.output, hg4.size, hg4.block⟩ (by omega) (by omega))
                 have HWD : Hid (IntKind.i64.wrap ((D : Int) - 1) = ((D - 1 : Nat) : Int)) := Lib.hid (by rw [show ((D - 1 : Nat) : Int) = (D : Int) - 1 by omega]; exact IntWalk.i64_in _ (by omega))
                 clear hk hix ht hr hst hgw hacc hoks hszs HAL
                 obtain ⟨i0, hi0, hz0, hz1, hz2⟩ := info_parts info_Type
                 have HI : Hid (i0.zero = some (.agg #[.int .i64 0, .string ⟨#[]⟩, .int .i64 0, .slice none 0 0]) ∧ i0.size = 4 ∧ i0.bytes = 56) := Lib.hid ⟨hz0, hz1, hz2⟩
                 clear hz0 hz1 hz2
                 have Hi0 := Lib.hid hi0
                 clear hi0
                 go_wp2
                 go_region_law (first
                   | (have _t := tok4; refine step_append_rd _ ?_ (.tmp 75) (.tmp 80) _ ?_ (tb + 1) 25 i0 (.agg #[.int .i64 0, .string ⟨#[]⟩, .int .i64 0, .slice none 0 0]) 4 56 Tryd.underlying23 Hi0.out HI.out.1 HI.out.2.1 HI.out.2.2 rfl ?_ (.slice A ts.length c) ts.length xs ?_ ?_ (w4.heap.size + 1) (some ⟨w4.heap.size, 0, none⟩) 1 1 [.int .i64 t1.kind, .string t1.name, .int .i64 t1.index, .slice A1 t1.args.length c1] ?_ ?_ ?_ ?_ ?_ ?_; rfl; rfl; omega; rfl; exact hown4; rfl; exact Rd.blk (cs := #[.int .i64 t1.kind, .string t1.name, .int .i64 t1.index, .slice A1 t1.args.length c1]) (blk_new w4 _) rfl (by omega); exact (by simp [Value.oneCell']); omega; go_size; intro v5 w5 hown5 hg5 hat5
                      have hs5 := hg5.size
                      have ht5 := (hg5.block tb (by simp; omega) (fun e => by have := HOG.out tb e.symm; omega)).trans (blk_old ht4)
                      have q3 : w5.cell? ⟨tb, 3, none⟩ = some (.slice A ts.length c) := by rw [cell_of_row w5 tb 3 _ _ _ ht5]; rfl
                      have q4 : w5.frozen? ⟨tb, 3, none⟩ = false := by simp [World.frozen?, ht5]
                      obtain ⟨A5, c5, rfl⟩ : ∃ A c, v5 = .slice A (ts.length + 1) c := by
                        rcases hown5.2 with ⟨_, h0⟩ | ⟨g, cap, cur, rfl, _⟩
                        · omega
                        · exact ⟨_, _, rfl⟩
                      have HO5 := Lib.hid hown5
                      have HG5 := Lib.hid hg5
                      have HAT5 := Lib.hid hat5
                      clear hown5 hg5 hat5 ht5)
                   | (go_simp; go_at_call 12; rw [HWD.out]; refine (IH.out hDp _ sb G HSTR.out HEW.out hG).mono ?_; rintro e w4 ⟨t1, u1, rfl, hty1, hok1, hsz1, hst4, hg4⟩
                      have tok4 : True := trivial
                      have HTY := Lib.hid hty1
                      obtain ⟨A1, c1, rfl, _⟩ := hty1.args_
                      have hs4 := hg4.size
                      simp at hs4
                      have hlt4 : tb < w4.heap.size := by omega
                      have ht4 := (hg4.block tb (by simp; omega) (by simp; omega)).trans HTB.out
                      have q43 : w4.cell? ⟨tb, 3, none⟩ = some (.slice A ts.length c) := by rw [cell_of_row w4 tb 3 _ _ _ ht4]; rfl
                      obtain ⟨xs, hown4, hel4⟩ := (HK.out w4 hg4).below (W' := w4.alloc (.cells #[.int .i64 t1.kind, .string t1.name, .int .i64 t1.index, .slice A1 t1.args.length c1] 25)) ((Below.refl _ _).alloc (Nat.le_refl _) _)
                      have HEL := Lib.hid hel4
                      have HG4 := Lib.hid hg4
                      have HST4 := Lib.hid hst4
                      have HOK1 := Lib.hid hok1
                      clear hel4 hty1 hg4 hst4 hok1))
                 all_goals
                   have HFIN : Hid (AL (9 ^ (D - 1)) sb tb w.heap.size w (w5.setCell ⟨tb, 3, none⟩ (.slice A5 (ts.length + 1) c5)) k nm ix (.slice A5 (ts.length + 1) c5) (ts ++ [t1])) := Lib.hid (by
                     have hlenx : xs.length = ts.length * 4 := hown4.1
                     have hgr : ∀ b, b < wr.heap.size → b ≠ sb → (Value.slice A ts.length c).ownBlock ≠ some b → w5.heap[b]? = wr.heap[b]? := fun b hb h1 h2 =>
                       (HG5.out.block b (by simp; omega) (fun e => h2 e.symm)).trans ((Below.heap_alloc _ _ _ (by omega)).trans (HG4.out.block b hb (by simp; exact h1)))
                     refine HA.out.next (by omega) (by omega) (by omega) HOK1.out hsz1 ?_ ?_ hgr ⟨HG5.out.os.trans HG4.out.os, HG5.out.tape.trans HG4.out.tape, HG5.out.output.trans HG4.out.output, by have := HG5.out.size; simp at this; omega⟩
                     · refine (HST4.out.below (w' := w4.alloc _) ((Below.refl _ _).alloc (Nat.le_refl _) _) (by omega)).keep fun b hb => HG5.out.block b (by simp; omega) (fun e => by have := HOG.out b e.symm; omega)
                     · refine Acc.push xs HEL.out hlenx ⟨_, _, ?_, ?_, ?_, (HTY.out.keep (KeepIn.alloc _ (Nat.le_refl _)) (Nat.le_refl _) (Nat.le_refl _))⟩ HO5.out HG5.out HAT5.out
                       · simp; omega
                       · simp
                       · intro b hb
                         have := HACC.out.own_lt b hb
                         left
                         simpa using this)
                   clear HO5 HG5 HAT5 HEL HG4 HST4 HTY hown4 q43 ht4 HK HACC HA HTB HSTR HEW
                   go_wp2
                   go_roundw
                   case rel => exact ⟨ts.length + 1, by omega, by go_num, Lib.hid (fun h => by omega), Lib.hid ⟨nm, k, ix, _, _, by simp, HFIN.out⟩⟩
                   case measure => simp [intOf]; omega
               · have HS2 : Hid (1 + Ty.sizes ts ≤ 9 ^ D) := Lib.hid (by
                   by_cases h0 : D = 0
                   · have := HD0.out h0
                     have : ts = [] := List.eq_nil_of_length_eq_zero this
                     subst this
                     subst h0
                     simp [Ty.sizes]
                   · obtain ⟨D', rfl⟩ : ∃ D', D = D' + 1 := ⟨D - 1, by omega⟩
                     simp only [Nat.add_sub_cancel] at hszs
                     have h1 : ts.length * 9 ^ D' ≤ 8 * 9 ^ D' := Nat.mul_le_mul_right _ (by omega)
                     have h2 : 1 ≤ 9 ^ D' := Nat.one_le_pow _ _ (by omega)
                     rw [Nat.pow_succ]
                     omega)
                 have HX : Hid (∃ (nm : ByteArray) (k ix : Int) (v : Value) (ts : List Ty), 1 + Ty.sizes ts ≤ 9 ^ D ∧ AL (9 ^ (D - 1)) sb tb w.heap.size w wr k nm ix v ts) := Lib.hid ⟨nm, k, ix, _, ts, HS2.out, HA.out⟩
                 clear hk hix ht hr hst hgw hacc hoks hszs HAL HA
                 have hway : (ts.length < m2 ∧ ¬ 0 < D) ∨ ¬ ts.length < m2 := by omega
                 rcases hway with ⟨h1, h2⟩ | h1
                 · have h1' : ((ts.length : Nat) : Int) < (m2 : Int) := by omega
                   have h2' : ¬ (0 : Int) < (D : Int) := by omega
                   go_wp2
                   go_meet
                   exact HX
                 · go_wp2
                   go_meet
                   exact HX
            case rest =>
              clear HAL0
              obtain ⟨nm, k, ix, v, ts, hsz, hal⟩ := hcut.out
              clear hcut
              have HA := Lib.hid hal
              have HS2 := Lib.hid hsz
              obtain ⟨A, c, rfl⟩ := hal.2.2.2.2.2.2.1.form
              obtain ⟨hk, hix, ht, hr, hst, hgw, hacc, hoks, hszs⟩ := hal
              have c0 : wc.cell? ⟨tb, 0, none⟩ = some (.int .i64 k) := by rw [cell_of_row wc tb 0 _ _ _ ht]; rfl
              have c1 : wc.cell? ⟨tb, 1, none⟩ = some (.string nm) := by rw [cell_of_row wc tb 1 _ _ _ ht]; rfl
              have c2 : wc.cell? ⟨tb, 2, none⟩ = some (.int .i64 ix) := by rw [cell_of_row wc tb 2 _ _ _ ht]; rfl
              have c3 : wc.cell? ⟨tb, 3, none⟩ = some (.slice A ts.length c) := by rw [cell_of_row wc tb 3 _ _ _ ht]; rfl
              have r0 : wc.cell? ⟨w.heap.size, 0, none⟩ = some (.int .i64 0) := by rw [cell_of_row wc _ 0 _ _ _ hr]; rfl
              have r1 : wc.cell? ⟨w.heap.size, 1, none⟩ = some (.string ⟨#[]⟩) := by rw [cell_of_row wc _ 1 _ _ _ hr]; rfl
              have r2 : wc.cell? ⟨w.heap.size, 2, none⟩ = some (.int .i64 0) := by rw [cell_of_row wc _ 2 _ _ _ hr]; rfl
              have r3 : wc.cell? ⟨w.heap.size, 3, none⟩ = some (.slice none 0 0) := by rw [cell_of_row wc _ 3 _ _ _ hr]; rfl
              have g0 : wc.frozen? ⟨w.heap.size, 0, none⟩ = false := by simp [World.frozen?, hr]
              have g1 : wc.frozen? ⟨w.heap.size, 1, none⟩ = false := by simp [World.frozen?, hr]
              have g2 : wc.frozen? ⟨w.heap.size, 2, none⟩ = false := by simp [World.frozen?, hr]
              have g3 : wc.frozen? ⟨w.heap.size, 3, none⟩ = false := by simp [World.frozen?, hr]
              have HFIN : Hid (∀ W : World, (∀ b, b ≠ w.heap.size → W.heap[b]? = wc.heap[b]?) → W.os = wc.os ∧ W.tape = wc.tape ∧ W.output = wc.output ∧ W.heap.size = wc.heap.size → GenTy (9 ^ D) sb w (.returned (.agg #[.int .i64 k, .string nm, .int .i64 ix, .slice A ts.length c])) W) := Lib.hid (fun W hW hf => by
                have hge := hacc.own_ge
                have hacc' : Acc W (tb + 1) (tb + 1) ts (.slice A ts.length c) := hacc.keep (by omega) fun b hb hh => hW b (by
                  rcases hh with hh | hh
                  · omega
                  · have := hge _ hh; omega)
                refine ⟨⟨k, nm, ix, ts⟩, _, rfl, IsTy.mk_ (hacc'.isTyl (by omega) (by omega)), ?_, ?_, hst.keep fun b hb => hW b (by omega), ⟨hf.1.trans hgw.os, hf.2.1.trans hgw.tape, hf.2.2.1.trans hgw.output, by have := hgw.size; omega, fun b hb hne => (hW b (by omega)).trans (hgw.block b hb hne)⟩⟩
                · rw [Ty.ok_eq]; exact ⟨hk, hix, hoks⟩
                · rw [Ty.size_eq]; exact HS2.out)
              have HR := Lib.hid hr
              clear hk hix ht hr hst hgw hacc hoks hszs HA hsz
              generalize ts.length = n at *
              go_wp2
              have hres : ∀ W : World, W = (((wc.setCell ⟨w.heap.size, 0, none⟩ (.int .i64 k)).setCell ⟨w.heap.size, 1, none⟩ (.string nm)).setCell ⟨w.heap.size, 2, none⟩ (.int .i64 ix)).setCell ⟨w.heap.size, 3, none⟩ (.slice A n c) →
                  W.cell? ⟨w.heap.size, 0, none⟩ = some (.int .i64 k) ∧ W.cell? ⟨w.heap.size, 1, none⟩ = some (.string nm) ∧ W.cell? ⟨w.heap.size, 2, none⟩ = some (.int .i64 ix) ∧ W.cell? ⟨w.heap.size, 3, none⟩ = some (.slice A n c) := fun W hW => by
                have hb : W.heap[w.heap.size]? = some (.cells #[.int .i64 k, .string nm, .int .i64 ix, .slice A n c] 25 (0, 0)) := by
                  subst hW
                  simp [World.setCell, Array.getElem?_modify, HR.out]
                exact ⟨by rw [cell_of_row W _ 0 _ _ _ hb]; rfl, by rw [cell_of_row W _ 1 _ _ _ hb]; rfl, by rw [cell_of_row W _ 2 _ _ _ hb]; rfl, by rw [cell_of_row W _ 3 _ _ _ hb]; rfl⟩
              have hres2 := hres _ rfl
              have HFIN2 := HFIN.out ((((wc.setCell ⟨w.heap.size, 0, none⟩ (.int .i64 k)).setCell ⟨w.heap.size, 1, none⟩ (.string nm)).setCell ⟨w.heap.size, 2, none⟩ (.int .i64 ix)).setCell ⟨w.heap.size, 3, none⟩ (.slice A n c)) (fun b hb => by
                rw [Below.heap_setCell _ _ _ _ (by exact hb), Below.heap_setCell _ _ _ _ (by exact hb), Below.heap_setCell _ _ _ _ (by exact hb), Below.heap_setCell _ _ _ _ (by exact hb)]) ⟨rfl, rfl, rfl, by simp [World.setCell]⟩
              clear hres HFIN
              generalize (((wc.setCell ⟨w.heap.size, 0, none⟩ (.int .i64 k)).setCell ⟨w.heap.size, 1, none⟩ (.string nm)).setCell ⟨w.heap.size, 2, none⟩ (.int .i64 ix)).setCell ⟨w.heap.size, 3, none⟩ (.slice A n c) = W at *
              obtain ⟨z0, z1, z2, z3⟩ := hres2
              exact bodyPost_ret (v := .agg #[.int .i64 k, .string nm, .int .i64 ix, .slice A n c]) (by simp [results, Tryd.results12, go_sem, z0, z1, z2, z3]) rfl HFIN2

theorem c_AnyTerm (D : Nat) : ∀ (w : World) (sb G : Nat), StreamOk w sb → EnvN 0 11 w G → G ≤ sb → D ≤ 10 →
    Calls Tryd.prog 12 #[.pointer (some ⟨sb, 0, none⟩), .int .i64 D] w (GenTy (9 ^ D) sb w) := by
  induction D with
  | zero => intro w sb G h1 h2 h3 h4; exact any_step 0 (fun h => by omega) w sb G h1 h2 h3 h4
  | succ D ih => intro w sb G h1 h2 h3 h4; exact any_step (D + 1) (fun _ w sb G h1 h2 h3 => ih w sb G h1 h2 h3 (by omega)) w sb G h1 h2 h3 h4
end Go.Proofs.YtdbflfakocaapaaDoor
