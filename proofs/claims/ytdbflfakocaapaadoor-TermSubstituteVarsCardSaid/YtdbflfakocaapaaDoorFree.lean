/- Contracts of the reference's freeVars, TermFreeVars, TermClosed, TermPlain. -/
import Derived.Test.YtdbflfakocaapaaDoorClosed
import Derived.Test.YtdbflfakocaapaaDoorInts
namespace Go.Proofs.YtdbflfakocaapaaDoor
open Go.RowKit
attribute [local go_sem ↓] Go.wp_at_zero Go.wp_at_succ

mutual
theorem Ty.fvs_len : ∀ (t : Ty) (d : Int), (t.fvs d).length ≤ t.size
  | ⟨k, _, ix, args⟩, d => by
    have := Ty.fvss_len k args 0 d
    rw [Ty.fvs, Ty.size, List.length_append]
    split <;> simp <;> omega
theorem Ty.fvss_len (k : Int) : ∀ (ts : List Ty) (i : Nat) (d : Int), (Ty.fvss k ts i d).length ≤ Ty.sizes ts
  | [], _, _ => by simp [Ty.fvss]
  | t :: ts, i, d => by
    rw [Ty.fvss, Ty.sizes, List.length_append]
    have := Ty.fvs_len t (d + bindI k i)
    have := Ty.fvss_len k ts (i + 1) d
    omega
 end

def fvHead (k ix d : Int) : List Int := if k = 5 ∧ d ≤ ix then [ix - d] else []

set_option maxHeartbeats 2000000 in
theorem c_freeVars (N : Nat) : ∀ (t : Ty) (d : Int) (l : List Int) (w : World) (L B : Nat) (v vl : Value), t.size ≤ N → IsTy w L B t v → B ≤ w.heap.size → t.ok → 0 ≤ d → d + t.size ≤ 2 ^ 50 → IsInts w w.heap.size l vl → l.length + t.size ≤ 2 ^ 30 →
    Calls Tryd.prog 55 #[v, .int .i64 d, vl] w (RetInts (insAll l (t.fvs d)) w) := by
  induction N with
  | zero => intro t d l w L B v vl h; have := t.size_pos; omega
  | succ N ih =>
  intro t d l w L B v vl hN ht0 hB hok hd0 hd hl0 hM
  obtain ⟨A, c, rfl, hv⟩ := ht0.args_
  clear ht0
  rw [Ty.size_eq] at hN hM hd
  rw [Ty.ok_eq] at hok
  rw [Ty.fvs_eq]
  obtain ⟨hok1, hok2, hok3⟩ := hok
  unfold inI at hok1 hok2
  have hl := Ty.len_le t.args
  rw [show (if t.kind = 5 ∧ d ≤ t.index then [t.index - d] else []) = fvHead t.kind t.index d from rfl, insAll_append]
  have hfh : Hid (t.kind = 5 ∧ d ≤ t.index → fvHead t.kind t.index d = [t.index - d]) := Lib.hid (fun h => by simp [fvHead, h])
  have hfn : Hid (¬ (t.kind = 5 ∧ d ≤ t.index) → fvHead t.kind t.index d = []) := Lib.hid (fun h => by simp only [fvHead]; rw [if_neg h])
  have hfl : (fvHead t.kind t.index d).length ≤ 1 := by unfold fvHead; split <;> simp
  generalize fvHead t.kind t.index d = fh at *
  generalize t.kind = k, t.name = nm, t.index = ix, t.args = args at *
  have HV := Lib.hid hv; clear hv
  have IH := Lib.hid ih; clear ih
  have HO := Lib.hid hok3; clear hok3
  have HL := Lib.hid hl0; clear hl0
  generalize hn : args.length = n at *
  have Hn := Lib.hid hn; clear hn
  have hway : (k == 5) = false ∨ ((k == 5) = true ∧ ¬ d ≤ ix) ∨ ((k == 5) = true ∧ d ≤ ix) := by
    by_cases h : k = 5
    · by_cases h2 : d ≤ ix
      · exact .inr (.inr ⟨by rw [h]; rfl, h2⟩)
      · exact .inr (.inl ⟨by rw [h]; rfl, h2⟩)
    · exact .inl (by rw [beq_eq_false_iff_ne]; exact h)
  have hfh1 : Hid ((k == 5) = true → d ≤ ix → fh = [ix - d]) := Lib.hid (fun h1 h2 => hfh.out ⟨by simpa using h1, h2⟩)
  have hfn1 : Hid ((k == 5) = false → fh = []) := Lib.hid (fun h1 => hfn.out (fun h => by simp at h1; exact h1 h.1))
  have hfn2 : Hid (¬ d ≤ ix → fh = []) := Lib.hid (fun h1 => hfn.out (fun h => h1 h.2))
  clear hfh hfn
  rcases hway with hk5 | ⟨hk5, hix⟩ | ⟨hk5, hix⟩
  · have HF := Lib.hid (hfn1.out hk5)
    go_enter Tryd.func55, Tryd.ntmps55
    go_wp2
    have hx : (w.alloc (.cells #[.int .i64 k, .string nm, .int .i64 ix, .slice A n c] 25)).cell? ⟨w.heap.size, 0, none⟩ = some (.int .i64 k) ∧ (w.alloc (.cells #[.int .i64 k, .string nm, .int .i64 ix, .slice A n c] 25)).cell? ⟨w.heap.size, 1, none⟩ = some (.string nm) ∧ (w.alloc (.cells #[.int .i64 k, .string nm, .int .i64 ix, .slice A n c] 25)).cell? ⟨w.heap.size, 2, none⟩ = some (.int .i64 ix) ∧ (w.alloc (.cells #[.int .i64 k, .string nm, .int .i64 ix, .slice A n c] 25)).cell? ⟨w.heap.size, 3, none⟩ = some (.slice A n c) ∧ Below w.heap.size w (w.alloc (.cells #[.int .i64 k, .string nm, .int .i64 ix, .slice A n c] 25)) ∧ w.heap.size < (w.alloc (.cells #[.int .i64 k, .string nm, .int .i64 ix, .slice A n c] 25)).heap.size ∧ Hid (IsInts (w.alloc (.cells #[.int .i64 k, .string nm, .int .i64 ix, .slice A n c] 25)) (w.alloc (.cells #[.int .i64 k, .string nm, .int .i64 ix, .slice A n c] 25)).heap.size (insAll l fh) (vl)) := ⟨by simp, by simp, by simp, by simp, (Below.refl _ _).alloc (Nat.le_refl _) _, by simp, by rw [HF.out]; exact (HL.out.below ((Below.refl _ _).alloc (Nat.le_refl _) _) (Nat.le_refl _)).more (by simp)⟩
    generalize w.alloc (.cells #[.int .i64 k, .string nm, .int .i64 ix, .slice A n c] 25) = W at *
    obtain ⟨b0, b1, b2, b3, hbW, hltW, HL1⟩ := hx
    go_loopw [2, 7] (fun s i wr => ∃ j : Nat, j ≤ n ∧ i = .int .i64 j ∧ Hid (IsInts wr wr.heap.size (insAll (insAll l fh) (Ty.fvss k (args.take j) 0 d)) s) ∧ wr.cell? ⟨w.heap.size, 0, none⟩ = some (.int .i64 k) ∧ wr.cell? ⟨w.heap.size, 1, none⟩ = some (.string nm) ∧ wr.cell? ⟨w.heap.size, 2, none⟩ = some (.int .i64 ix) ∧ wr.cell? ⟨w.heap.size, 3, none⟩ = some (.slice A n c) ∧ Below w.heap.size w wr ∧ w.heap.size < wr.heap.size) (fun _ i _ => n - (intOf i).toNat)
    case atStart => exact ⟨0, by omega, rfl, HL1, b0, b1, b2, b3, hbW, hltW⟩
    case round =>
      clear b0 b1 b2 b3 hbW hltW
      obtain ⟨j, hj, rfl, HS, b0, b1, b2, b3, hb, hlt⟩ := hrel
      by_cases hjn : j < n
      · obtain ⟨g, o, A', c', hj', rfl, hg1, hg2, c0, c1, c2, c3, ht⟩ := HV.out.at_ (KeepIn.of_below hb hB) hjn
        have hg := Ty.size_get j hj'
        have hoj := Lib.hid (Ty.ok_get HO.out j hj')
        have HT := Lib.hid ht
        clear ht
        have hbi := bindI_le k j
        have hlen : (insAll (insAll l fh) (Ty.fvss k (args.take j) 0 d)).length + args[j].size ≤ 2 ^ 30 := by
          have e1 := insAll_len (insAll l fh) (Ty.fvss k (args.take j) 0 d)
          have e2 := insAll_len l fh
          have e3 := Ty.fvss_len k (args.take j) 0 d
          have e4 := Ty.sizes_take j hj'
          have e5 := Ty.sizes_take_le args (j + 1)
          omega
        have htk : Hid (insAll (insAll l fh) (Ty.fvss k (args.take (j + 1)) 0 d) = insAll (insAll (insAll l fh) (Ty.fvss k (args.take j) 0 d)) (args[j].fvs (d + bindI k j))) := Lib.hid (by rw [Ty.fvss_take k args 0 d j hj', insAll_append, Nat.zero_add])
        generalize args[j] = tj at *
        generalize insAll (insAll l fh) (Ty.fvss k (args.take j) 0 d) = l2 at *
        have HW : Hid (IntKind.i64.wrap (d + bindI k j) = d + bindI k j) := Lib.hid (IntWalk.i64_in _ (by omega))
        have hj0 : (0 : Int) ≤ (j : Int) := by omega
        have hj1 : (j : Int) < (n : Int) := by omega
        go_wp2
        go_region_held3 (fun w' => w'.cell? ⟨w.heap.size, 0, none⟩ = some (.int .i64 k) ∧ w'.cell? ⟨w.heap.size, 1, none⟩ = some (.string nm) ∧ w'.cell? ⟨w.heap.size, 2, none⟩ = some (.int .i64 ix) ∧ w'.cell? ⟨w.heap.size, 3, none⟩ = some (.slice (some ⟨g, o, none⟩) n c) ∧ w'.cell? ⟨g, o + j * 4, none⟩ = some (.int .i64 tj.kind) ∧ w'.cell? ⟨g, o + j * 4 + 1, none⟩ = some (.string tj.name) ∧ w'.cell? ⟨g, o + j * 4 + 2, none⟩ = some (.int .i64 tj.index) ∧ w'.cell? ⟨g, o + j * 4 + 3, none⟩ = some (.slice A' tj.args.length c'))
          (first | go_keep | (go_split_ands; refine ⟨?_, ?_, ?_, ?_, ?_, ?_, ?_, ?_⟩ <;> (first | (rw [hb2.cell (by have := hb1.size; simp at this ⊢; omega)]; assumption) | (rw [hb1.cell (by simp; omega)]; assumption))))
          (first
            | (go_at_call 79; refine (c_rbinders _ _ _ _ _ _).mono ?_; rintro e w1 ⟨rfl, hb1⟩)
            | (go_at_call 55; rw [HW.out]; refine (IH.out tj _ l2 _ L B _ _ (by omega) (HT.out.below ((Below.refl _ _).drew.trans (hb1.mono (by go_size))) (by go_size)) (by have := hb1.size; simp at this; omega) hoj.out (by omega) (by omega) ((HS.out.below ((Below.refl _ _).drew.trans (hb1.mono (by go_size))) (Nat.le_refl _)).more (by have := hb1.size; simpa using this)) hlen).mono ?_; rintro e w2 ⟨vr, rfl, hvr, hb2⟩))
        have hs1 := hb1.size
        have hs2 := hb2.size
        simp only [heap_drew] at hs1 hb1
        have hbz : Below wr.heap.size wr w2 := (Below.refl _ _).drew.trans ((hb1.mono (by go_size)).trans (hb2.mono (by omega)))
        have HR := Lib.hid hvr
        clear hb1 hb2 hvr
        go_wp2
        go_roundw
        case rel => exact ⟨j + 1, by omega, by go_num, by rw [htk.out]; exact HR, by rw [hbz.cell (by exact hlt)]; exact b0, by rw [hbz.cell (by exact hlt)]; exact b1, by rw [hbz.cell (by exact hlt)]; exact b2, by rw [hbz.cell (by exact hlt)]; exact b3, hb.trans (hbz.mono (by omega)), by omega⟩
        case measure => simp [intOf]; omega
      · obtain rfl : j = n := by omega
        have e := Lib.hid (List.take_of_length_le (l := args) (i := j) (by rw [Hn.out]; exact Nat.le_refl _))
        rw [e.out] at HS
        go_wp2
        go_ret
        exact ⟨_, rfl, HS.out, hb⟩
  · have HF := Lib.hid (hfn2.out hix)
    go_enter Tryd.func55, Tryd.ntmps55
    go_wp2
    have hx : (w.alloc (.cells #[.int .i64 k, .string nm, .int .i64 ix, .slice A n c] 25)).cell? ⟨w.heap.size, 0, none⟩ = some (.int .i64 k) ∧ (w.alloc (.cells #[.int .i64 k, .string nm, .int .i64 ix, .slice A n c] 25)).cell? ⟨w.heap.size, 1, none⟩ = some (.string nm) ∧ (w.alloc (.cells #[.int .i64 k, .string nm, .int .i64 ix, .slice A n c] 25)).cell? ⟨w.heap.size, 2, none⟩ = some (.int .i64 ix) ∧ (w.alloc (.cells #[.int .i64 k, .string nm, .int .i64 ix, .slice A n c] 25)).cell? ⟨w.heap.size, 3, none⟩ = some (.slice A n c) ∧ Below w.heap.size w (w.alloc (.cells #[.int .i64 k, .string nm, .int .i64 ix, .slice A n c] 25)) ∧ w.heap.size < (w.alloc (.cells #[.int .i64 k, .string nm, .int .i64 ix, .slice A n c] 25)).heap.size ∧ Hid (IsInts (w.alloc (.cells #[.int .i64 k, .string nm, .int .i64 ix, .slice A n c] 25)) (w.alloc (.cells #[.int .i64 k, .string nm, .int .i64 ix, .slice A n c] 25)).heap.size (insAll l fh) (vl)) := ⟨by simp, by simp, by simp, by simp, (Below.refl _ _).alloc (Nat.le_refl _) _, by simp, by rw [HF.out]; exact (HL.out.below ((Below.refl _ _).alloc (Nat.le_refl _) _) (Nat.le_refl _)).more (by simp)⟩
    generalize w.alloc (.cells #[.int .i64 k, .string nm, .int .i64 ix, .slice A n c] 25) = W at *
    obtain ⟨b0, b1, b2, b3, hbW, hltW, HL1⟩ := hx
    go_loopw [2, 7] (fun s i wr => ∃ j : Nat, j ≤ n ∧ i = .int .i64 j ∧ Hid (IsInts wr wr.heap.size (insAll (insAll l fh) (Ty.fvss k (args.take j) 0 d)) s) ∧ wr.cell? ⟨w.heap.size, 0, none⟩ = some (.int .i64 k) ∧ wr.cell? ⟨w.heap.size, 1, none⟩ = some (.string nm) ∧ wr.cell? ⟨w.heap.size, 2, none⟩ = some (.int .i64 ix) ∧ wr.cell? ⟨w.heap.size, 3, none⟩ = some (.slice A n c) ∧ Below w.heap.size w wr ∧ w.heap.size < wr.heap.size) (fun _ i _ => n - (intOf i).toNat)
    case atStart => exact ⟨0, by omega, rfl, HL1, b0, b1, b2, b3, hbW, hltW⟩
    case round =>
      clear b0 b1 b2 b3 hbW hltW
      obtain ⟨j, hj, rfl, HS, b0, b1, b2, b3, hb, hlt⟩ := hrel
      by_cases hjn : j < n
      · obtain ⟨g, o, A', c', hj', rfl, hg1, hg2, c0, c1, c2, c3, ht⟩ := HV.out.at_ (KeepIn.of_below hb hB) hjn
        have hg := Ty.size_get j hj'
        have hoj := Lib.hid (Ty.ok_get HO.out j hj')
        have HT := Lib.hid ht
        clear ht
        have hbi := bindI_le k j
        have hlen : (insAll (insAll l fh) (Ty.fvss k (args.take j) 0 d)).length + args[j].size ≤ 2 ^ 30 := by
          have e1 := insAll_len (insAll l fh) (Ty.fvss k (args.take j) 0 d)
          have e2 := insAll_len l fh
          have e3 := Ty.fvss_len k (args.take j) 0 d
          have e4 := Ty.sizes_take j hj'
          have e5 := Ty.sizes_take_le args (j + 1)
          omega
        have htk : Hid (insAll (insAll l fh) (Ty.fvss k (args.take (j + 1)) 0 d) = insAll (insAll (insAll l fh) (Ty.fvss k (args.take j) 0 d)) (args[j].fvs (d + bindI k j))) := Lib.hid (by rw [Ty.fvss_take k args 0 d j hj', insAll_append, Nat.zero_add])
        generalize args[j] = tj at *
        generalize insAll (insAll l fh) (Ty.fvss k (args.take j) 0 d) = l2 at *
        have HW : Hid (IntKind.i64.wrap (d + bindI k j) = d + bindI k j) := Lib.hid (IntWalk.i64_in _ (by omega))
        have hj0 : (0 : Int) ≤ (j : Int) := by omega
        have hj1 : (j : Int) < (n : Int) := by omega
        go_wp2
        go_region_held3 (fun w' => w'.cell? ⟨w.heap.size, 0, none⟩ = some (.int .i64 k) ∧ w'.cell? ⟨w.heap.size, 1, none⟩ = some (.string nm) ∧ w'.cell? ⟨w.heap.size, 2, none⟩ = some (.int .i64 ix) ∧ w'.cell? ⟨w.heap.size, 3, none⟩ = some (.slice (some ⟨g, o, none⟩) n c) ∧ w'.cell? ⟨g, o + j * 4, none⟩ = some (.int .i64 tj.kind) ∧ w'.cell? ⟨g, o + j * 4 + 1, none⟩ = some (.string tj.name) ∧ w'.cell? ⟨g, o + j * 4 + 2, none⟩ = some (.int .i64 tj.index) ∧ w'.cell? ⟨g, o + j * 4 + 3, none⟩ = some (.slice A' tj.args.length c'))
          (first | go_keep | (go_split_ands; refine ⟨?_, ?_, ?_, ?_, ?_, ?_, ?_, ?_⟩ <;> (first | (rw [hb2.cell (by have := hb1.size; simp at this ⊢; omega)]; assumption) | (rw [hb1.cell (by simp; omega)]; assumption))))
          (first
            | (go_at_call 79; refine (c_rbinders _ _ _ _ _ _).mono ?_; rintro e w1 ⟨rfl, hb1⟩)
            | (go_at_call 55; rw [HW.out]; refine (IH.out tj _ l2 _ L B _ _ (by omega) (HT.out.below ((Below.refl _ _).drew.trans (hb1.mono (by go_size))) (by go_size)) (by have := hb1.size; simp at this; omega) hoj.out (by omega) (by omega) ((HS.out.below ((Below.refl _ _).drew.trans (hb1.mono (by go_size))) (Nat.le_refl _)).more (by have := hb1.size; simpa using this)) hlen).mono ?_; rintro e w2 ⟨vr, rfl, hvr, hb2⟩))
        have hs1 := hb1.size
        have hs2 := hb2.size
        simp only [heap_drew] at hs1 hb1
        have hbz : Below wr.heap.size wr w2 := (Below.refl _ _).drew.trans ((hb1.mono (by go_size)).trans (hb2.mono (by omega)))
        have HR := Lib.hid hvr
        clear hb1 hb2 hvr
        go_wp2
        go_roundw
        case rel => exact ⟨j + 1, by omega, by go_num, by rw [htk.out]; exact HR, by rw [hbz.cell (by exact hlt)]; exact b0, by rw [hbz.cell (by exact hlt)]; exact b1, by rw [hbz.cell (by exact hlt)]; exact b2, by rw [hbz.cell (by exact hlt)]; exact b3, hb.trans (hbz.mono (by omega)), by omega⟩
        case measure => simp [intOf]; omega
      · obtain rfl : j = n := by omega
        have e := Lib.hid (List.take_of_length_le (l := args) (i := j) (by rw [Hn.out]; exact Nat.le_refl _))
        rw [e.out] at HS
        go_wp2
        go_ret
        exact ⟨_, rfl, HS.out, hb⟩
  · have HF := Lib.hid (hfh1.out hk5 hix)
    have hsub : Hid (IntKind.i64.wrap (ix - d) = ix - d) := Lib.hid (IntWalk.i64_in _ (by omega))
    go_enter Tryd.func55, Tryd.ntmps55
    go_wp2_with fail
    refine (c_insertInt l (ix - d) vl _ w.heap.size (HL.out.below ((Below.refl _ _).alloc (Nat.le_refl _) _) (Nat.le_refl _)) (by simp) (by omega)).mono ?_
    rintro e w1 ⟨v1, rfl, hv1, hb1⟩
    have HV1 := Lib.hid hv1
    clear hv1
    have hs1 := hb1.size
    simp at hs1
    have hbb : Below w.heap.size w w1 := ((Below.refl _ _).alloc (Nat.le_refl _) _).trans (hb1.mono (by simp))
    have hq : w1.cell? ⟨w.heap.size, 0, none⟩ = some (.int .i64 k) ∧ w1.cell? ⟨w.heap.size, 1, none⟩ = some (.string nm) ∧ w1.cell? ⟨w.heap.size, 2, none⟩ = some (.int .i64 ix) ∧ w1.cell? ⟨w.heap.size, 3, none⟩ = some (.slice A n c) := by
      refine ⟨?_, ?_, ?_, ?_⟩ <;> (rw [hb1.cell (by simp)]; simp)
    have HQ := Lib.hid hq
    clear hb1 hq
    go_wp2
    have hx : (w1).cell? ⟨w.heap.size, 0, none⟩ = some (.int .i64 k) ∧ (w1).cell? ⟨w.heap.size, 1, none⟩ = some (.string nm) ∧ (w1).cell? ⟨w.heap.size, 2, none⟩ = some (.int .i64 ix) ∧ (w1).cell? ⟨w.heap.size, 3, none⟩ = some (.slice A n c) ∧ Below w.heap.size w (w1) ∧ w.heap.size < (w1).heap.size ∧ Hid (IsInts (w1) (w1).heap.size (insAll l fh) (v1)) := ⟨HQ.out.1, HQ.out.2.1, HQ.out.2.2.1, HQ.out.2.2.2, hbb, by omega, by rw [HF.out]; exact HV1⟩
    generalize w1 = W at *
    obtain ⟨b0, b1, b2, b3, hbW, hltW, HL1⟩ := hx
    go_loopw [2, 7] (fun s i wr => ∃ j : Nat, j ≤ n ∧ i = .int .i64 j ∧ Hid (IsInts wr wr.heap.size (insAll (insAll l fh) (Ty.fvss k (args.take j) 0 d)) s) ∧ wr.cell? ⟨w.heap.size, 0, none⟩ = some (.int .i64 k) ∧ wr.cell? ⟨w.heap.size, 1, none⟩ = some (.string nm) ∧ wr.cell? ⟨w.heap.size, 2, none⟩ = some (.int .i64 ix) ∧ wr.cell? ⟨w.heap.size, 3, none⟩ = some (.slice A n c) ∧ Below w.heap.size w wr ∧ w.heap.size < wr.heap.size) (fun _ i _ => n - (intOf i).toNat)
    case atStart => exact ⟨0, by omega, rfl, HL1, b0, b1, b2, b3, hbW, hltW⟩
    case round =>
      clear b0 b1 b2 b3 hbW hltW
      obtain ⟨j, hj, rfl, HS, b0, b1, b2, b3, hb, hlt⟩ := hrel
      by_cases hjn : j < n
      · obtain ⟨g, o, A', c', hj', rfl, hg1, hg2, c0, c1, c2, c3, ht⟩ := HV.out.at_ (KeepIn.of_below hb hB) hjn
        have hg := Ty.size_get j hj'
        have hoj := Lib.hid (Ty.ok_get HO.out j hj')
        have HT := Lib.hid ht
        clear ht
        have hbi := bindI_le k j
        have hlen : (insAll (insAll l fh) (Ty.fvss k (args.take j) 0 d)).length + args[j].size ≤ 2 ^ 30 := by
          have e1 := insAll_len (insAll l fh) (Ty.fvss k (args.take j) 0 d)
          have e2 := insAll_len l fh
          have e3 := Ty.fvss_len k (args.take j) 0 d
          have e4 := Ty.sizes_take j hj'
          have e5 := Ty.sizes_take_le args (j + 1)
          omega
        have htk : Hid (insAll (insAll l fh) (Ty.fvss k (args.take (j + 1)) 0 d) = insAll (insAll (insAll l fh) (Ty.fvss k (args.take j) 0 d)) (args[j].fvs (d + bindI k j))) := Lib.hid (by rw [Ty.fvss_take k args 0 d j hj', insAll_append, Nat.zero_add])
        generalize args[j] = tj at *
        generalize insAll (insAll l fh) (Ty.fvss k (args.take j) 0 d) = l2 at *
        have HW : Hid (IntKind.i64.wrap (d + bindI k j) = d + bindI k j) := Lib.hid (IntWalk.i64_in _ (by omega))
        have hj0 : (0 : Int) ≤ (j : Int) := by omega
        have hj1 : (j : Int) < (n : Int) := by omega
        go_wp2
        go_region_held3 (fun w' => w'.cell? ⟨w.heap.size, 0, none⟩ = some (.int .i64 k) ∧ w'.cell? ⟨w.heap.size, 1, none⟩ = some (.string nm) ∧ w'.cell? ⟨w.heap.size, 2, none⟩ = some (.int .i64 ix) ∧ w'.cell? ⟨w.heap.size, 3, none⟩ = some (.slice (some ⟨g, o, none⟩) n c) ∧ w'.cell? ⟨g, o + j * 4, none⟩ = some (.int .i64 tj.kind) ∧ w'.cell? ⟨g, o + j * 4 + 1, none⟩ = some (.string tj.name) ∧ w'.cell? ⟨g, o + j * 4 + 2, none⟩ = some (.int .i64 tj.index) ∧ w'.cell? ⟨g, o + j * 4 + 3, none⟩ = some (.slice A' tj.args.length c'))
          (first | go_keep | (go_split_ands; refine ⟨?_, ?_, ?_, ?_, ?_, ?_, ?_, ?_⟩ <;> (first | (rw [hb2.cell (by have := hb1.size; simp at this ⊢; omega)]; assumption) | (rw [hb1.cell (by simp; omega)]; assumption))))
          (first
            | (go_at_call 79; refine (c_rbinders _ _ _ _ _ _).mono ?_; rintro e w1 ⟨rfl, hb1⟩)
            | (go_at_call 55; rw [HW.out]; refine (IH.out tj _ l2 _ L B _ _ (by omega) (HT.out.below ((Below.refl _ _).drew.trans (hb1.mono (by go_size))) (by go_size)) (by have := hb1.size; simp at this; omega) hoj.out (by omega) (by omega) ((HS.out.below ((Below.refl _ _).drew.trans (hb1.mono (by go_size))) (Nat.le_refl _)).more (by have := hb1.size; simpa using this)) hlen).mono ?_; rintro e w2 ⟨vr, rfl, hvr, hb2⟩))
        have hs1 := hb1.size
        have hs2 := hb2.size
        simp only [heap_drew] at hs1 hb1
        have hbz : Below wr.heap.size wr w2 := (Below.refl _ _).drew.trans ((hb1.mono (by go_size)).trans (hb2.mono (by omega)))
        have HR := Lib.hid hvr
        clear hb1 hb2 hvr
        go_wp2
        go_roundw
        case rel => exact ⟨j + 1, by omega, by go_num, by rw [htk.out]; exact HR, by rw [hbz.cell (by exact hlt)]; exact b0, by rw [hbz.cell (by exact hlt)]; exact b1, by rw [hbz.cell (by exact hlt)]; exact b2, by rw [hbz.cell (by exact hlt)]; exact b3, hb.trans (hbz.mono (by omega)), by omega⟩
        case measure => simp [intOf]; omega
      · obtain rfl : j = n := by omega
        have e := Lib.hid (List.take_of_length_le (l := args) (i := j) (by rw [Hn.out]; exact Nat.le_refl _))
        rw [e.out] at HS
        go_wp2
        go_ret
        exact ⟨_, rfl, HS.out, hb⟩

theorem Ty.fvs_nil_iff (t : Ty) : (insAll [] (t.fvs 0)).length = 0 ↔ t.closed 0 = true := by
  rw [List.length_eq_zero_iff, insAll_nil, Ty.closed_fvs]

set_option maxHeartbeats 400000 in
theorem c_TermFreeVars (t : Ty) (w : World) (L B : Nat) (v : Value) (hv : IsTy w L B t v) (hB : B ≤ w.heap.size) (hok : t.ok) (hM : t.size ≤ 2 ^ 30) :
    Calls Tryd.prog 26 #[v] w (RetInts (insAll [] (t.fvs 0)) w) := by
  have HT := Lib.hid hv
  obtain ⟨A, c, rfl, _⟩ := hv.args_
  clear hv
  have HO := Lib.hid hok
  clear hok
  go_enter Tryd.func26, Tryd.ntmps26
  go_wp2_with fail
  refine (c_freeVars t.size t 0 [] _ L B _ _ (Nat.le_refl _) (HT.out.below ((Below.refl _ _).alloc (Nat.le_refl _) _) hB) (by go_size) HO.out (by omega) (by omega) (IsInts.nil _ _) (by simpa using hM)).mono ?_
  rintro e w1 ⟨v1, rfl, hv1, hb1⟩
  have HV := Lib.hid hv1
  clear hv1
  go_wp2
  go_ret
  exact ⟨_, rfl, HV.out, ((Below.refl _ _).alloc (Nat.le_refl _) _).trans (hb1.mono (by go_size))⟩

set_option maxHeartbeats 400000 in
theorem c_TermClosed (t : Ty) (w : World) (L B : Nat) (v : Value) (hv : IsTy w L B t v) (hB : B ≤ w.heap.size) (hok : t.ok) (hM : t.size ≤ 2 ^ 30) :
    Calls Tryd.prog 60 #[v] w fun e w' => e = .returned (.bool (t.closed 0)) ∧ Below w.heap.size w w' := by
  have HT := Lib.hid hv
  obtain ⟨A, c, rfl, _⟩ := hv.args_
  clear hv
  have HO := Lib.hid hok
  clear hok
  go_enter Tryd.func60, Tryd.ntmps60
  go_wp2_with fail
  refine (c_TermFreeVars t _ L B _ (HT.out.below ((Below.refl _ _).alloc (Nat.le_refl _) _) hB) (by go_size) HO.out hM).mono ?_
  rintro e w1 ⟨v1, rfl, ⟨A1, c1, rfl, _⟩, hb1⟩
  have hi := Lib.hid (Ty.fvs_nil_iff t)
  generalize (insAll [] (t.fvs 0)).length = m at *
  go_wp2
  go_ret
  refine ⟨ret_bool ?_, ((Below.refl _ _).alloc (Nat.le_refl _) _).trans (hb1.mono (by go_size))⟩
  rw [Bool.eq_iff_iff, ← hi.out]
  simp
  try omega

theorem Ty.plain_false {t : Ty} (h5 : (t.kind == 5) = false) (hc : t.closed 0 = false) : t.plain = (t.kind == 2 && Ty.plains t.args) := by
  rw [Ty.plain_eq, h5, hc]; simp
theorem Ty.plains_false {ts : List Ty} (j : Nat) (hj : j < ts.length) (h : ts[j].plain = false) : Ty.plains ts = false := by
  rw [Bool.eq_false_iff]
  intro e
  have := (Ty.plains_iff ts).1 e j hj
  rw [h] at this
  cases this

set_option maxHeartbeats 1000000 in
theorem c_TermPlain (N : Nat) : ∀ (t : Ty) (w : World) (L B : Nat) (v : Value), t.size ≤ N → IsTy w L B t v → B ≤ w.heap.size → t.ok → t.size ≤ 2 ^ 30 →
    Calls Tryd.prog 34 #[v] w fun e w' => e = .returned (.bool t.plain) ∧ Below w.heap.size w w' := by
  induction N with
  | zero => intro t w L B v h; have := t.size_pos; omega
  | succ N ih =>
  intro t w L B v hN ht0 hB hok hM
  have HT0 := Lib.hid ht0
  obtain ⟨A, c, rfl, hv⟩ := ht0.args_
  clear ht0
  have HO0 := Lib.hid hok
  rw [Ty.ok_eq] at hok
  obtain ⟨hok1, hok2, hok3⟩ := hok
  clear hok1 hok2
  have HV := Lib.hid hv; clear hv
  have IH := Lib.hid ih; clear ih
  have HO := Lib.hid hok3; clear hok3
  have hsz : Hid (t.size = 1 + Ty.sizes t.args) := Lib.hid (Ty.size_eq t)
  have hsz1 : 1 + Ty.sizes t.args ≤ N + 1 := by rw [← hsz.out]; exact hN
  have hsz2 : 1 + Ty.sizes t.args ≤ 2 ^ 30 := by rw [← hsz.out]; exact hM
  have hl := Ty.len_le t.args
  cases h5 : (t.kind == 5)
  rotate_left
  · have hf : Hid (t.plain = true) := Lib.hid (by rw [Ty.plain_eq, h5]; simp)
    go_enter Tryd.func34, Tryd.ntmps34
    go_wp2
    go_ret
    exact ⟨ret_bool (by rw [hf.out]), (Below.refl _ _).alloc (Nat.le_refl _) _⟩
  cases hcl : t.closed 0
  rotate_left
  · have hf : Hid (t.plain = true) := Lib.hid (by rw [Ty.plain_eq, hcl]; simp)
    go_enter Tryd.func34, Tryd.ntmps34
    go_wp2_with fail
    refine (c_TermClosed t _ L B _ (HT0.out.below ((Below.refl _ _).alloc (Nat.le_refl _) _) hB) (by go_size) HO0.out hM).mono ?_
    rintro e w1 ⟨rfl, hb1⟩
    go_wp2
    go_ret
    exact ⟨ret_bool (by rw [hf.out]), ((Below.refl _ _).alloc (Nat.le_refl _) _).trans (hb1.mono (by go_size))⟩
  have hf := Lib.hid (Ty.plain_false h5 hcl)
  go_enter Tryd.func34, Tryd.ntmps34
  go_wp2_with fail
  refine (c_TermClosed t _ L B _ (HT0.out.below ((Below.refl _ _).alloc (Nat.le_refl _) _) hB) (by go_size) HO0.out hM).mono ?_
  rintro e w1 ⟨rfl, hb1⟩
  have hs1 := hb1.size
  simp at hs1
  have hbb : Below w.heap.size w w1 := ((Below.refl _ _).alloc (Nat.le_refl _) _).trans (hb1.mono (by go_size))
  have q0 : w1.cell? ⟨w.heap.size, 0, none⟩ = some (.int .i64 t.kind) := by rw [hb1.cell (by simp)]; simp
  have q3 : w1.cell? ⟨w.heap.size, 3, none⟩ = some (.slice A t.args.length c) := by rw [hb1.cell (by simp)]; simp
  clear hb1 HT0 hN hM
  generalize t.kind = k, t.name = nm, t.index = ix, t.args = args at *
  generalize hn : args.length = n at *
  have Hn := Lib.hid hn; clear hn
  go_wp2
  go_loopw [3] (fun i wr => ∃ j : Nat, j ≤ n ∧ i = .int .i64 j ∧ Hid (∀ (i : Nat) (hi : i < args.length), i < j → args[i].plain = true) ∧
    wr.cell? ⟨w.heap.size, 0, none⟩ = some (.int .i64 k) ∧ wr.cell? ⟨w.heap.size, 3, none⟩ = some (.slice A n c) ∧ Below w.heap.size w wr ∧ w.heap.size < wr.heap.size) (fun i _ => n - (intOf i).toNat)
  case atStart => exact ⟨0, by omega, rfl, Lib.hid (fun _ _ h => by omega), q0, q3, hbb, by omega⟩
  case round =>
    clear q0 q3 hbb
    obtain ⟨j, hj, rfl, hall, b0, b3, hb, hlt⟩ := hrel
    by_cases hjn : j < n
    · obtain ⟨g, o, A', c', hj', rfl, hg1, hg2, c0, c1, c2, c3, ht⟩ := HV.out.at_ (KeepIn.of_below hb hB) hjn
      have hg := Ty.size_get j hj'
      have hoj := Lib.hid (Ty.ok_get HO.out j hj')
      have HT := Lib.hid ht
      clear ht
      have hfalse : Hid (args[j].plain = false → Ty.plains args = false) := Lib.hid (Ty.plains_false j hj')
      have htrue : Hid (args[j].plain = true → ∀ (i : Nat) (hi : i < args.length), i < j + 1 → args[i].plain = true) := Lib.hid (fun h i hi hij => by
        rcases Nat.lt_or_ge i j with h1 | h1
        · exact hall.out i hi h1
        · obtain rfl : i = j := by omega
          exact h)
      generalize args[j] = tj at *
      go_wp2_with fail
      refine (IH.out tj _ L B _ (by omega) HT.out (by omega) hoj.out (by omega)).mono ?_
      rintro e w2 ⟨rfl, hb2⟩
      cases hres : tj.plain
      · have hz := Lib.hid (hfalse.out hres)
        go_wp2
        go_ret
        exact ⟨ret_bool (by rw [hf.out, hz.out]; simp), hb.trans (hb2.mono (by omega))⟩
      · have hz := Lib.hid (htrue.out hres)
        go_wp2
        go_roundw
        case rel => exact ⟨j + 1, by omega, by go_num, hz, by rw [hb2.cell (by exact hlt)]; exact b0, by rw [hb2.cell (by exact hlt)]; exact b3, hb.trans (hb2.mono (by omega)), by have := hb2.size; omega⟩
        case measure => simp [intOf]; omega
    · obtain rfl : j = n := by omega
      have hz : Hid (Ty.plains args = true) := Lib.hid ((Ty.plains_iff args).2 fun i hi => hall.out i hi (by rw [← Hn.out]; exact hi))
      go_wp2
      go_ret
      exact ⟨ret_bool (by rw [hf.out, hz.out]; simp), hb⟩
end Go.Proofs.YtdbflfakocaapaaDoor
