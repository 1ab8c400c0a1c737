/- Contracts of collectFree and FreeVars by depth: terms of any size whose nodes are not wide and whose free variables are below 100. -/
import Derived.Test.YtdbflfakocaapaaDoorCollect2
import Derived.Test.YtdbflfakocaapaaDoorRepl
namespace Go.Proofs.YtdbflfakocaapaaDoor
open Go.RowKit
attribute [local go_sem ↓] Go.wp_at_zero Go.wp_at_succ


set_option maxHeartbeats 4000000 in
theorem c_collectFreeD (N : Nat) : ∀ (t : Ty) (d : Int) (xs : List Int) (w : World) (L B base sb : Nat) (vt v : Value), t.size ≤ N → IsTy w L B t vt → B ≤ base → t.ok → t.nar → 0 ≤ d → d + t.depth ≤ 2 ^ 60 → SetI w base sb xs v → base ≤ w.heap.size → (∀ x ∈ xs, 0 ≤ x ∧ x < 100) → (∀ x ∈ t.fvs d, 0 ≤ x ∧ x < 100) →
    Calls Tryd.prog 54 #[vt, .int .i64 d, .pointer (some ⟨sb, 0, none⟩)] w (AddedSetI base sb v (insAll xs (t.fvs d)) w) := by
  induction N with
  | zero => intro t d xs w L B base sb vt v h; have := t.size_pos; omega
  | succ N ih =>
  intro t d xs w L B base sb vt v hN ht0 hB hok hnar hd0 hd hset hbase hKX hKT
  obtain ⟨A, c, rfl, hv⟩ := ht0.args_
  clear ht0
  rw [Ty.size_eq] at hN
  rw [Ty.depth_eq] at hd
  rw [Ty.nar_eq] at hnar
  obtain ⟨hn40, hnars⟩ := hnar
  have HNAR := Lib.hid hnars
  clear hnars
  rw [Ty.ok_eq] at hok
  rw [Ty.fvs_eq] at hKT ⊢
  obtain ⟨hok1, hok2, hok3⟩ := hok
  unfold inI at hok1 hok2
  have hl := Ty.len_le t.args
  rw [show (if t.kind = 5 ∧ d ≤ t.index then [t.index - d] else []) = fvHead t.kind t.index d from rfl] at hKT
  rw [show (if t.kind = 5 ∧ d ≤ t.index then [t.index - d] else []) = fvHead t.kind t.index d from rfl, insAll_append]
  have hfh : Hid (t.kind = 5 ∧ d ≤ t.index → fvHead t.kind t.index d = [t.index - d]) := Lib.hid (fun h => by simp [fvHead, h])
  have hfn : Hid (¬ (t.kind = 5 ∧ d ≤ t.index) → fvHead t.kind t.index d = []) := Lib.hid (fun h => by simp only [fvHead]; rw [if_neg h])
  have hfl : (fvHead t.kind t.index d).length ≤ 1 := by unfold fvHead; split <;> simp
  generalize fvHead t.kind t.index d = fh at *
  generalize t.kind = k, t.name = nm, t.index = ix, t.args = args at *
  have HKX := Lib.hid hKX; clear hKX
  have HKT := Lib.hid hKT; clear hKT
  have HV := Lib.hid hv; clear hv
  have IH := Lib.hid ih; clear ih
  have HO := Lib.hid hok3; clear hok3
  have HS := Lib.hid hset; clear hset
  have HOG := Lib.hid HS.out.own_ge
  generalize hn : args.length = n at *
  have Hn := Lib.hid hn; clear hn
  have hway : (k == 5) = false ∨ ((k == 5) = true ∧ ¬ d ≤ ix) ∨ ((k == 5) = true ∧ d ≤ ix) := by
    by_cases h : k = 5
    · by_cases h2 : d ≤ ix
      · exact .inr (.inr ⟨by rw [h]; rfl, h2⟩)
      · exact .inr (.inl ⟨by rw [h]; rfl, h2⟩)
    · exact .inl (by rw [beq_eq_false_iff_ne]; exact h)
  have hfh1 : Hid ((k == 5) = true → d ≤ ix → fh = [ix - d]) := Lib.hid (fun h1 h2 => hfh.out ⟨by simpa using h1, h2⟩)
  have hfn1 : Hid ((k == 5) = false → fh = []) := Lib.hid (fun h1 => hfn.out (fun h => by simp at h1; exact h1 h.1))
  have hfn2 : Hid (¬ d ≤ ix → fh = []) := Lib.hid (fun h1 => hfn.out (fun h => h1 h.2))
  clear hfh hfn
  rcases hway with hk5 | ⟨hk5, hix⟩ | ⟨hk5, hix⟩
  · have HF := Lib.hid (hfn1.out hk5)
    go_enter Tryd.func54, Tryd.ntmps54
    go_wp2
    have hx : (w.alloc (.cells #[.int .i64 k, .string nm, .int .i64 ix, .slice A n c] 25)).heap[w.heap.size]? = some (.cells #[.int .i64 k, .string nm, .int .i64 ix, .slice A n c] 25 (0, 0)) ∧ Hid (∃ v', SetI (w.alloc (.cells #[.int .i64 k, .string nm, .int .i64 ix, .slice A n c] 25)) base sb (insAll xs fh) v' ∧ SetStep sb v w (w.alloc (.cells #[.int .i64 k, .string nm, .int .i64 ix, .slice A n c] 25)) v') ∧ w.heap.size < (w.alloc (.cells #[.int .i64 k, .string nm, .int .i64 ix, .slice A n c] 25)).heap.size ∧ (w.alloc (.cells #[.int .i64 k, .string nm, .int .i64 ix, .slice A n c] 25)).cell? ⟨w.heap.size, 3, none⟩ = some (.slice A n c) := ⟨blk_new _ _, Lib.hid ⟨v, by rw [HF.out]; exact HS.out.step ((Below.refl _ _).alloc (Nat.le_refl _) _), SetStep.of_below ((Below.refl _ _).alloc (Nat.le_refl _) _)⟩, by simp, by simp⟩
    generalize w.alloc (.cells #[.int .i64 k, .string nm, .int .i64 ix, .slice A n c] 25) = Wz at *
    obtain ⟨hbz, HSZ, hltz, b3z⟩ := hx
    go_loopw [26] (fun i wr => ∃ j : Nat, j ≤ n ∧ i = .int .i64 j ∧ Hid (wr.heap[w.heap.size]? = some (.cells #[.int .i64 k, .string nm, .int .i64 ix, .slice A n c] 25 (0, 0))) ∧ Hid (∃ v', SetI wr base sb (insAll (insAll xs fh) (Ty.fvss k (args.take j) 0 d)) v' ∧ SetStep sb v w wr v')) (fun i _ => n - (intOf i).toNat)
    case atStart => exact ⟨0, by omega, rfl, Lib.hid hbz, HSZ⟩
    case round =>
      clear hbz HSZ hltz b3z
      obtain ⟨j, hj, rfl, HBX, HSS⟩ := hrel
      by_cases hjn : j < n
      · obtain ⟨v1, hset1, hstep1⟩ := HSS.out
        have hbel : Below B w wr := hstep1.below (by have := hset1.ge; omega) HOG.out (by omega) (by omega)
        obtain ⟨g, o, A', c', hj', rfl, hg1, hg2, c0, c1, c2, c3, ht⟩ := HV.out.at_ (KeepIn.of_below hbel (Nat.le_refl _)) hjn
        have hltw : w.heap.size < wr.heap.size := blk_lt HBX.out
        obtain ⟨b0, b1, b2, b3⟩ := cells4 HBX.out
        have hg := Ty.size_get j hj'
        have hdg := Ty.depth_get j hj'
        have hnj := Lib.hid (Ty.nar_get HNAR.out j hj')
        have hoj := Lib.hid (Ty.ok_get HO.out j hj')
        have HT := Lib.hid ht
        clear ht
        have hbi := bindI_le k j
        have hlenA : Hid (∀ x ∈ insAll (insAll xs fh) (Ty.fvss k (args.take j) 0 d), 0 ≤ x ∧ x < 100) := Lib.hid (fun x hx => by
          rcases (insAll_mem x _ _).1 hx with h | h
          · rcases (insAll_mem x _ _).1 h with h | h
            · exact HKX.out x h
            · exact HKT.out x (List.mem_append_left _ h)
          · exact HKT.out x (List.mem_append_right _ (Ty.fvss_take_mem h)))
        have hlenB : Hid (∀ x ∈ args[j].fvs (d + bindI k j), 0 ≤ x ∧ x < 100) := Lib.hid (fun x hx => HKT.out x (List.mem_append_right _ (Ty.fvss_mem hj' (by rw [Nat.zero_add]; exact hx))))
        have htk : Hid (insAll (insAll xs fh) (Ty.fvss k (args.take (j + 1)) 0 d) = insAll (insAll (insAll xs fh) (Ty.fvss k (args.take j) 0 d)) (args[j].fvs (d + bindI k j))) := Lib.hid (by rw [Ty.fvss_take k args 0 d j hj', insAll_append, Nat.zero_add])
        generalize args[j] = tj at *
        generalize insAll (insAll xs fh) (Ty.fvss k (args.take j) 0 d) = l2 at *
        have HW : Hid (IntKind.i64.wrap (d + bindI k j) = d + bindI k j) := Lib.hid (IntWalk.i64_in _ (by omega))
        have hsz := hstep1.size
        have HS1 := Lib.hid hset1
        have HST := Lib.hid hstep1
        have HBE := Lib.hid hbel
        clear hset1 hstep1 HSS hbel
        have hxx : Hid (∀ (W : World), W = wr.alloc (.cells #[.int .i64 tj.kind, .string tj.name, .int .i64 tj.index, .slice A' tj.args.length c'] 25) →
            W.heap[wr.heap.size]? = some (.cells #[.int .i64 tj.kind, .string tj.name, .int .i64 tj.index, .slice A' tj.args.length c'] 25 (0, 0)) ∧ W.heap[w.heap.size]? = some (.cells #[.int .i64 k, .string nm, .int .i64 ix, .slice (some ⟨g, o, none⟩) n c] 25 (0, 0)) ∧ Below wr.heap.size wr W ∧ wr.heap.size < W.heap.size) := Lib.hid (fun W hW => by
          subst hW
          exact ⟨blk_new _ _, blk_old HBX.out, (Below.refl _ _).alloc (Nat.le_refl _) _, by simp⟩)
        go_wp2
        generalize hW : wr.alloc _ = W
        obtain ⟨hx1, hx2, hbW, hltW⟩ := hxx.out W hW.symm
        obtain ⟨x0, x1, x2, x3⟩ := cells4 hx1
        obtain ⟨y0, y1, y2, y3⟩ := cells4 hx2
        have HX1 := Lib.hid hx1
        have HX2 := Lib.hid hx2
        clear hW hx1 hx2 hxx
        go_region_held3 (fun w' => w'.cell? ⟨wr.heap.size, 0, none⟩ = some (.int .i64 tj.kind) ∧ w'.cell? ⟨wr.heap.size, 1, none⟩ = some (.string tj.name) ∧ w'.cell? ⟨wr.heap.size, 2, none⟩ = some (.int .i64 tj.index) ∧ w'.cell? ⟨wr.heap.size, 3, none⟩ = some (.slice A' tj.args.length c') ∧ w'.cell? ⟨w.heap.size, 0, none⟩ = some (.int .i64 k) ∧ w'.cell? ⟨w.heap.size, 1, none⟩ = some (.string nm) ∧ w'.cell? ⟨w.heap.size, 2, none⟩ = some (.int .i64 ix) ∧ w'.cell? ⟨w.heap.size, 3, none⟩ = some (.slice (some ⟨g, o, none⟩) n c))
          (first | go_keep | (go_split_ands; refine ⟨?_, ?_, ?_, ?_, ?_, ?_, ?_, ?_⟩ <;> (first | assumption | (rw [hb1.cell (by simp; omega)]; assumption))))
          (first
            | (go_at_call 77; refine (c_tbinders _ _ _ _ _ _).mono ?_; rintro e w1 ⟨rfl, hb1⟩)
            | (go_at_call 54; rw [HW.out]; refine (IH.out tj _ l2 _ L B base sb _ v1 (by omega) (HT.out.below (hbW.trans ((Below.refl _ _).drew.trans (hb1.mono (by go_size)))) (by omega)) (by omega) hoj.out hnj.out (by omega) (by omega) (((HS1.out.step hbW).step (w' := W.drew) ⟨rfl, rfl, rfl, Nat.le_refl _, fun _ _ => rfl⟩).step hb1) (by have := hb1.size; simp at this; omega) hlenA.out hlenB.out).mono ?_; rintro e w2 ⟨rfl, v2, hset2, hstep2⟩
               have hy1 := (hb1.block _ (show wr.heap.size < _ from hltW)).trans HX1.out
               have hy2 := (hb1.block _ (show w.heap.size < _ by simp; omega)).trans HX2.out
               have hn1 := (((HS1.out.step hbW).step (w' := W.drew) ⟨rfl, rfl, rfl, Nat.le_refl _, fun _ _ => rfl⟩).step hb1).ne hy1 (by decide) (by decide)
               have hn2 := (((HS1.out.step hbW).step (w' := W.drew) ⟨rfl, rfl, rfl, Nat.le_refl _, fun _ _ => rfl⟩).step hb1).ne hy2 (by decide) (by decide)
               have hz1 := (hstep2.block _ (blk_lt hy1) hn1.1 hn1.2).trans hy1
               have hz2 := (hstep2.block _ (blk_lt hy2) hn2.1 hn2.2).trans hy2
               obtain ⟨z0, z1, z2, z3⟩ := cells4 hz1
               obtain ⟨z4, z5, z6, z7⟩ := cells4 hz2
               have HZ2 := Lib.hid hz2
               clear hy1 hy2 hz1 hz2))
        have HFIN : Hid (∃ v', SetI w2 base sb (insAll (insAll xs fh) (Ty.fvss k (args.take (j + 1)) 0 d)) v' ∧ SetStep sb v w w2 v') := Lib.hid ⟨v2, by rw [htk.out]; exact hset2, HST.out.trans ((SetStep.of_below (hbW.trans ((Below.refl _ _).drew.trans (hb1.mono (by go_size))))).trans hstep2)⟩
        clear hset2 hstep2 hb1 hbW z0 z1 z2 z3 z4 z5 z6 z7 x0 x1 x2 x3 y0 y1 y2 y3 hn1 hn2
        go_wp2
        go_roundw
        case rel => exact ⟨j + 1, by omega, by go_num, HZ2, HFIN⟩
        case measure => simp [intOf]; omega
      · obtain rfl : j = n := by omega
        have e := Lib.hid (List.take_of_length_le (l := args) (i := j) (by rw [Hn.out]; exact Nat.le_refl _))
        rw [e.out] at HSS
        go_wp2
        go_returns
        obtain ⟨v1, hset1, hstep1⟩ := HSS.out
        exact ⟨rfl, v1, hset1, hstep1⟩
  · have HF := Lib.hid (hfn2.out hix)
    go_enter Tryd.func54, Tryd.ntmps54
    go_wp2
    have hx : (w.alloc (.cells #[.int .i64 k, .string nm, .int .i64 ix, .slice A n c] 25)).heap[w.heap.size]? = some (.cells #[.int .i64 k, .string nm, .int .i64 ix, .slice A n c] 25 (0, 0)) ∧ Hid (∃ v', SetI (w.alloc (.cells #[.int .i64 k, .string nm, .int .i64 ix, .slice A n c] 25)) base sb (insAll xs fh) v' ∧ SetStep sb v w (w.alloc (.cells #[.int .i64 k, .string nm, .int .i64 ix, .slice A n c] 25)) v') ∧ w.heap.size < (w.alloc (.cells #[.int .i64 k, .string nm, .int .i64 ix, .slice A n c] 25)).heap.size ∧ (w.alloc (.cells #[.int .i64 k, .string nm, .int .i64 ix, .slice A n c] 25)).cell? ⟨w.heap.size, 3, none⟩ = some (.slice A n c) := ⟨blk_new _ _, Lib.hid ⟨v, by rw [HF.out]; exact HS.out.step ((Below.refl _ _).alloc (Nat.le_refl _) _), SetStep.of_below ((Below.refl _ _).alloc (Nat.le_refl _) _)⟩, by simp, by simp⟩
    generalize w.alloc (.cells #[.int .i64 k, .string nm, .int .i64 ix, .slice A n c] 25) = Wz at *
    obtain ⟨hbz, HSZ, hltz, b3z⟩ := hx
    go_loopw [26] (fun i wr => ∃ j : Nat, j ≤ n ∧ i = .int .i64 j ∧ Hid (wr.heap[w.heap.size]? = some (.cells #[.int .i64 k, .string nm, .int .i64 ix, .slice A n c] 25 (0, 0))) ∧ Hid (∃ v', SetI wr base sb (insAll (insAll xs fh) (Ty.fvss k (args.take j) 0 d)) v' ∧ SetStep sb v w wr v')) (fun i _ => n - (intOf i).toNat)
    case atStart => exact ⟨0, by omega, rfl, Lib.hid hbz, HSZ⟩
    case round =>
      clear hbz HSZ hltz b3z
      obtain ⟨j, hj, rfl, HBX, HSS⟩ := hrel
      by_cases hjn : j < n
      · obtain ⟨v1, hset1, hstep1⟩ := HSS.out
        have hbel : Below B w wr := hstep1.below (by have := hset1.ge; omega) HOG.out (by omega) (by omega)
        obtain ⟨g, o, A', c', hj', rfl, hg1, hg2, c0, c1, c2, c3, ht⟩ := HV.out.at_ (KeepIn.of_below hbel (Nat.le_refl _)) hjn
        have hltw : w.heap.size < wr.heap.size := blk_lt HBX.out
        obtain ⟨b0, b1, b2, b3⟩ := cells4 HBX.out
        have hg := Ty.size_get j hj'
        have hdg := Ty.depth_get j hj'
        have hnj := Lib.hid (Ty.nar_get HNAR.out j hj')
        have hoj := Lib.hid (Ty.ok_get HO.out j hj')
        have HT := Lib.hid ht
        clear ht
        have hbi := bindI_le k j
        have hlenA : Hid (∀ x ∈ insAll (insAll xs fh) (Ty.fvss k (args.take j) 0 d), 0 ≤ x ∧ x < 100) := Lib.hid (fun x hx => by
          rcases (insAll_mem x _ _).1 hx with h | h
          · rcases (insAll_mem x _ _).1 h with h | h
            · exact HKX.out x h
            · exact HKT.out x (List.mem_append_left _ h)
          · exact HKT.out x (List.mem_append_right _ (Ty.fvss_take_mem h)))
        have hlenB : Hid (∀ x ∈ args[j].fvs (d + bindI k j), 0 ≤ x ∧ x < 100) := Lib.hid (fun x hx => HKT.out x (List.mem_append_right _ (Ty.fvss_mem hj' (by rw [Nat.zero_add]; exact hx))))
        have htk : Hid (insAll (insAll xs fh) (Ty.fvss k (args.take (j + 1)) 0 d) = insAll (insAll (insAll xs fh) (Ty.fvss k (args.take j) 0 d)) (args[j].fvs (d + bindI k j))) := Lib.hid (by rw [Ty.fvss_take k args 0 d j hj', insAll_append, Nat.zero_add])
        generalize args[j] = tj at *
        generalize insAll (insAll xs fh) (Ty.fvss k (args.take j) 0 d) = l2 at *
        have HW : Hid (IntKind.i64.wrap (d + bindI k j) = d + bindI k j) := Lib.hid (IntWalk.i64_in _ (by omega))
        have hsz := hstep1.size
        have HS1 := Lib.hid hset1
        have HST := Lib.hid hstep1
        have HBE := Lib.hid hbel
        clear hset1 hstep1 HSS hbel
        have hxx : Hid (∀ (W : World), W = wr.alloc (.cells #[.int .i64 tj.kind, .string tj.name, .int .i64 tj.index, .slice A' tj.args.length c'] 25) →
            W.heap[wr.heap.size]? = some (.cells #[.int .i64 tj.kind, .string tj.name, .int .i64 tj.index, .slice A' tj.args.length c'] 25 (0, 0)) ∧ W.heap[w.heap.size]? = some (.cells #[.int .i64 k, .string nm, .int .i64 ix, .slice (some ⟨g, o, none⟩) n c] 25 (0, 0)) ∧ Below wr.heap.size wr W ∧ wr.heap.size < W.heap.size) := Lib.hid (fun W hW => by
          subst hW
          exact ⟨blk_new _ _, blk_old HBX.out, (Below.refl _ _).alloc (Nat.le_refl _) _, by simp⟩)
        go_wp2
        generalize hW : wr.alloc _ = W
        obtain ⟨hx1, hx2, hbW, hltW⟩ := hxx.out W hW.symm
        obtain ⟨x0, x1, x2, x3⟩ := cells4 hx1
        obtain ⟨y0, y1, y2, y3⟩ := cells4 hx2
        have HX1 := Lib.hid hx1
        have HX2 := Lib.hid hx2
        clear hW hx1 hx2 hxx
        go_region_held3 (fun w' => w'.cell? ⟨wr.heap.size, 0, none⟩ = some (.int .i64 tj.kind) ∧ w'.cell? ⟨wr.heap.size, 1, none⟩ = some (.string tj.name) ∧ w'.cell? ⟨wr.heap.size, 2, none⟩ = some (.int .i64 tj.index) ∧ w'.cell? ⟨wr.heap.size, 3, none⟩ = some (.slice A' tj.args.length c') ∧ w'.cell? ⟨w.heap.size, 0, none⟩ = some (.int .i64 k) ∧ w'.cell? ⟨w.heap.size, 1, none⟩ = some (.string nm) ∧ w'.cell? ⟨w.heap.size, 2, none⟩ = some (.int .i64 ix) ∧ w'.cell? ⟨w.heap.size, 3, none⟩ = some (.slice (some ⟨g, o, none⟩) n c))
          (first | go_keep | (go_split_ands; refine ⟨?_, ?_, ?_, ?_, ?_, ?_, ?_, ?_⟩ <;> (first | assumption | (rw [hb1.cell (by simp; omega)]; assumption))))
          (first
            | (go_at_call 77; refine (c_tbinders _ _ _ _ _ _).mono ?_; rintro e w1 ⟨rfl, hb1⟩)
            | (go_at_call 54; rw [HW.out]; refine (IH.out tj _ l2 _ L B base sb _ v1 (by omega) (HT.out.below (hbW.trans ((Below.refl _ _).drew.trans (hb1.mono (by go_size)))) (by omega)) (by omega) hoj.out hnj.out (by omega) (by omega) (((HS1.out.step hbW).step (w' := W.drew) ⟨rfl, rfl, rfl, Nat.le_refl _, fun _ _ => rfl⟩).step hb1) (by have := hb1.size; simp at this; omega) hlenA.out hlenB.out).mono ?_; rintro e w2 ⟨rfl, v2, hset2, hstep2⟩
               have hy1 := (hb1.block _ (show wr.heap.size < _ from hltW)).trans HX1.out
               have hy2 := (hb1.block _ (show w.heap.size < _ by simp; omega)).trans HX2.out
               have hn1 := (((HS1.out.step hbW).step (w' := W.drew) ⟨rfl, rfl, rfl, Nat.le_refl _, fun _ _ => rfl⟩).step hb1).ne hy1 (by decide) (by decide)
               have hn2 := (((HS1.out.step hbW).step (w' := W.drew) ⟨rfl, rfl, rfl, Nat.le_refl _, fun _ _ => rfl⟩).step hb1).ne hy2 (by decide) (by decide)
               have hz1 := (hstep2.block _ (blk_lt hy1) hn1.1 hn1.2).trans hy1
               have hz2 := (hstep2.block _ (blk_lt hy2) hn2.1 hn2.2).trans hy2
               obtain ⟨z0, z1, z2, z3⟩ := cells4 hz1
               obtain ⟨z4, z5, z6, z7⟩ := cells4 hz2
               have HZ2 := Lib.hid hz2
               clear hy1 hy2 hz1 hz2))
        have HFIN : Hid (∃ v', SetI w2 base sb (insAll (insAll xs fh) (Ty.fvss k (args.take (j + 1)) 0 d)) v' ∧ SetStep sb v w w2 v') := Lib.hid ⟨v2, by rw [htk.out]; exact hset2, HST.out.trans ((SetStep.of_below (hbW.trans ((Below.refl _ _).drew.trans (hb1.mono (by go_size))))).trans hstep2)⟩
        clear hset2 hstep2 hb1 hbW z0 z1 z2 z3 z4 z5 z6 z7 x0 x1 x2 x3 y0 y1 y2 y3 hn1 hn2
        go_wp2
        go_roundw
        case rel => exact ⟨j + 1, by omega, by go_num, HZ2, HFIN⟩
        case measure => simp [intOf]; omega
      · obtain rfl : j = n := by omega
        have e := Lib.hid (List.take_of_length_le (l := args) (i := j) (by rw [Hn.out]; exact Nat.le_refl _))
        rw [e.out] at HSS
        go_wp2
        go_returns
        obtain ⟨v1, hset1, hstep1⟩ := HSS.out
        exact ⟨rfl, v1, hset1, hstep1⟩
  · have HF := Lib.hid (hfh1.out hk5 hix)
    have HSA : Hid (∀ o : Obj, SetI (w.alloc o) base sb xs v) := Lib.hid (fun o => HS.out.step ((Below.refl _ _).alloc (Nat.le_refl _) _))
    go_enter Tryd.func54, Tryd.ntmps54
    go_wp2_with fail
    refine (c_addI base sb xs (ix - d) v _ (HSA.out _) (Nat.le_trans (small_len HS.out.sorted HKX.out) (by decide)) (by go_size) (ins_sorted _ _ HS.out.sorted)).mono ?_
    rintro e w1 ⟨rfl, v1, hset1, hstep1⟩
    have hbx0 := blk_new w (.cells #[.int .i64 k, .string nm, .int .i64 ix, .slice A n c] 25)
    have hnn := (HSA.out _).ne hbx0 (by decide) (by decide)
    have hbx := (hstep1.block _ (by simp) hnn.1 hnn.2).trans hbx0
    obtain ⟨b0, b1, b2, b3⟩ := cells4 hbx
    have HBX := Lib.hid hbx
    have HSS : Hid (∃ v', SetI w1 base sb (insAll xs fh) v' ∧ SetStep sb v w w1 v') := Lib.hid ⟨v1, by rw [HF.out]; exact hset1, (SetStep.of_below ((Below.refl _ _).alloc (Nat.le_refl _) _)).trans hstep1⟩
    have hs1 := hstep1.size
    simp at hs1
    clear hset1 hstep1 hbx0 hnn hbx
    go_wp2
    have hx : (w1).heap[w.heap.size]? = some (.cells #[.int .i64 k, .string nm, .int .i64 ix, .slice A n c] 25 (0, 0)) ∧ Hid (∃ v', SetI (w1) base sb (insAll xs fh) v' ∧ SetStep sb v w (w1) v') ∧ w.heap.size < (w1).heap.size ∧ (w1).cell? ⟨w.heap.size, 3, none⟩ = some (.slice A n c) := ⟨HBX.out, HSS, by omega, b3⟩
    generalize w1 = Wz at *
    obtain ⟨hbz, HSZ, hltz, b3z⟩ := hx
    go_loopw [26] (fun i wr => ∃ j : Nat, j ≤ n ∧ i = .int .i64 j ∧ Hid (wr.heap[w.heap.size]? = some (.cells #[.int .i64 k, .string nm, .int .i64 ix, .slice A n c] 25 (0, 0))) ∧ Hid (∃ v', SetI wr base sb (insAll (insAll xs fh) (Ty.fvss k (args.take j) 0 d)) v' ∧ SetStep sb v w wr v')) (fun i _ => n - (intOf i).toNat)
    case atStart => exact ⟨0, by omega, rfl, Lib.hid hbz, HSZ⟩
    case round =>
      clear hbz HSZ hltz b3z
      obtain ⟨j, hj, rfl, HBX, HSS⟩ := hrel
      by_cases hjn : j < n
      · obtain ⟨v1, hset1, hstep1⟩ := HSS.out
        have hbel : Below B w wr := hstep1.below (by have := hset1.ge; omega) HOG.out (by omega) (by omega)
        obtain ⟨g, o, A', c', hj', rfl, hg1, hg2, c0, c1, c2, c3, ht⟩ := HV.out.at_ (KeepIn.of_below hbel (Nat.le_refl _)) hjn
        have hltw : w.heap.size < wr.heap.size := blk_lt HBX.out
        obtain ⟨b0, b1, b2, b3⟩ := cells4 HBX.out
        have hg := Ty.size_get j hj'
        have hdg := Ty.depth_get j hj'
        have hnj := Lib.hid (Ty.nar_get HNAR.out j hj')
        have hoj := Lib.hid (Ty.ok_get HO.out j hj')
        have HT := Lib.hid ht
        clear ht
        have hbi := bindI_le k j
        have hlenA : Hid (∀ x ∈ insAll (insAll xs fh) (Ty.fvss k (args.take j) 0 d), 0 ≤ x ∧ x < 100) := Lib.hid (fun x hx => by
          rcases (insAll_mem x _ _).1 hx with h | h
          · rcases (insAll_mem x _ _).1 h with h | h
            · exact HKX.out x h
            · exact HKT.out x (List.mem_append_left _ h)
          · exact HKT.out x (List.mem_append_right _ (Ty.fvss_take_mem h)))
        have hlenB : Hid (∀ x ∈ args[j].fvs (d + bindI k j), 0 ≤ x ∧ x < 100) := Lib.hid (fun x hx => HKT.out x (List.mem_append_right _ (Ty.fvss_mem hj' (by rw [Nat.zero_add]; exact hx))))
        have htk : Hid (insAll (insAll xs fh) (Ty.fvss k (args.take (j + 1)) 0 d) = insAll (insAll (insAll xs fh) (Ty.fvss k (args.take j) 0 d)) (args[j].fvs (d + bindI k j))) := Lib.hid (by rw [Ty.fvss_take k args 0 d j hj', insAll_append, Nat.zero_add])
        generalize args[j] = tj at *
        generalize insAll (insAll xs fh) (Ty.fvss k (args.take j) 0 d) = l2 at *
        have HW : Hid (IntKind.i64.wrap (d + bindI k j) = d + bindI k j) := Lib.hid (IntWalk.i64_in _ (by omega))
        have hsz := hstep1.size
        have HS1 := Lib.hid hset1
        have HST := Lib.hid hstep1
        have HBE := Lib.hid hbel
        clear hset1 hstep1 HSS hbel
        have hxx : Hid (∀ (W : World), W = wr.alloc (.cells #[.int .i64 tj.kind, .string tj.name, .int .i64 tj.index, .slice A' tj.args.length c'] 25) →
            W.heap[wr.heap.size]? = some (.cells #[.int .i64 tj.kind, .string tj.name, .int .i64 tj.index, .slice A' tj.args.length c'] 25 (0, 0)) ∧ W.heap[w.heap.size]? = some (.cells #[.int .i64 k, .string nm, .int .i64 ix, .slice (some ⟨g, o, none⟩) n c] 25 (0, 0)) ∧ Below wr.heap.size wr W ∧ wr.heap.size < W.heap.size) := Lib.hid (fun W hW => by
          subst hW
          exact ⟨blk_new _ _, blk_old HBX.out, (Below.refl _ _).alloc (Nat.le_refl _) _, by simp⟩)
        go_wp2
        generalize hW : wr.alloc _ = W
        obtain ⟨hx1, hx2, hbW, hltW⟩ := hxx.out W hW.symm
        obtain ⟨x0, x1, x2, x3⟩ := cells4 hx1
        obtain ⟨y0, y1, y2, y3⟩ := cells4 hx2
        have HX1 := Lib.hid hx1
        have HX2 := Lib.hid hx2
        clear hW hx1 hx2 hxx
        go_region_held3 (fun w' => w'.cell? ⟨wr.heap.size, 0, none⟩ = some (.int .i64 tj.kind) ∧ w'.cell? ⟨wr.heap.size, 1, none⟩ = some (.string tj.name) ∧ w'.cell? ⟨wr.heap.size, 2, none⟩ = some (.int .i64 tj.index) ∧ w'.cell? ⟨wr.heap.size, 3, none⟩ = some (.slice A' tj.args.length c') ∧ w'.cell? ⟨w.heap.size, 0, none⟩ = some (.int .i64 k) ∧ w'.cell? ⟨w.heap.size, 1, none⟩ = some (.string nm) ∧ w'.cell? ⟨w.heap.size, 2, none⟩ = some (.int .i64 ix) ∧ w'.cell? ⟨w.heap.size, 3, none⟩ = some (.slice (some ⟨g, o, none⟩) n c))
          (first | go_keep | (go_split_ands; refine ⟨?_, ?_, ?_, ?_, ?_, ?_, ?_, ?_⟩ <;> (first | assumption | (rw [hb1.cell (by simp; omega)]; assumption))))
          (first
            | (go_at_call 77; refine (c_tbinders _ _ _ _ _ _).mono ?_; rintro e w1 ⟨rfl, hb1⟩)
            | (go_at_call 54; rw [HW.out]; refine (IH.out tj _ l2 _ L B base sb _ v1 (by omega) (HT.out.below (hbW.trans ((Below.refl _ _).drew.trans (hb1.mono (by go_size)))) (by omega)) (by omega) hoj.out hnj.out (by omega) (by omega) (((HS1.out.step hbW).step (w' := W.drew) ⟨rfl, rfl, rfl, Nat.le_refl _, fun _ _ => rfl⟩).step hb1) (by have := hb1.size; simp at this; omega) hlenA.out hlenB.out).mono ?_; rintro e w2 ⟨rfl, v2, hset2, hstep2⟩
               have hy1 := (hb1.block _ (show wr.heap.size < _ from hltW)).trans HX1.out
               have hy2 := (hb1.block _ (show w.heap.size < _ by simp; omega)).trans HX2.out
               have hn1 := (((HS1.out.step hbW).step (w' := W.drew) ⟨rfl, rfl, rfl, Nat.le_refl _, fun _ _ => rfl⟩).step hb1).ne hy1 (by decide) (by decide)
               have hn2 := (((HS1.out.step hbW).step (w' := W.drew) ⟨rfl, rfl, rfl, Nat.le_refl _, fun _ _ => rfl⟩).step hb1).ne hy2 (by decide) (by decide)
               have hz1 := (hstep2.block _ (blk_lt hy1) hn1.1 hn1.2).trans hy1
               have hz2 := (hstep2.block _ (blk_lt hy2) hn2.1 hn2.2).trans hy2
               obtain ⟨z0, z1, z2, z3⟩ := cells4 hz1
               obtain ⟨z4, z5, z6, z7⟩ := cells4 hz2
               have HZ2 := Lib.hid hz2
               clear hy1 hy2 hz1 hz2))
        have HFIN : Hid (∃ v', SetI w2 base sb (insAll (insAll xs fh) (Ty.fvss k (args.take (j + 1)) 0 d)) v' ∧ SetStep sb v w w2 v') := Lib.hid ⟨v2, by rw [htk.out]; exact hset2, HST.out.trans ((SetStep.of_below (hbW.trans ((Below.refl _ _).drew.trans (hb1.mono (by go_size))))).trans hstep2)⟩
        clear hset2 hstep2 hb1 hbW z0 z1 z2 z3 z4 z5 z6 z7 x0 x1 x2 x3 y0 y1 y2 y3 hn1 hn2
        go_wp2
        go_roundw
        case rel => exact ⟨j + 1, by omega, by go_num, HZ2, HFIN⟩
        case measure => simp [intOf]; omega
      · obtain rfl : j = n := by omega
        have e := Lib.hid (List.take_of_length_le (l := args) (i := j) (by rw [Hn.out]; exact Nat.le_refl _))
        rw [e.out] at HSS
        go_wp2
        go_returns
        obtain ⟨v1, hset1, hstep1⟩ := HSS.out
        exact ⟨rfl, v1, hset1, hstep1⟩

set_option maxHeartbeats 1000000 in
theorem c_FreeVarsD (t : Ty) (w : World) (L B : Nat) (v : Value) (hv : IsTy w L B t v) (hB : B ≤ w.heap.size) (hok : t.ok) (hnr : t.nar) (hM : t.depth ≤ 2 ^ 59) (hK : ∀ x ∈ t.fvs 0, 0 ≤ x ∧ x < 100) :
    Calls Tryd.prog 25 #[v] w (RetInts (insAll [] (t.fvs 0)) w) := by
  have HT := Lib.hid hv
  obtain ⟨A, c, rfl, _⟩ := hv.args_
  clear hv
  have HO := Lib.hid hok; clear hok
  have HNR := Lib.hid hnr; clear hnr
  have hbW : Hid (∀ o o' : Obj, Below w.heap.size w ((w.alloc o).alloc o')) := Lib.hid (fun o o' => ((Below.refl _ _).alloc (Nat.le_refl _) _).alloc (by simp) _)
  have HSET : Hid (∀ o : Obj, SetI ((w.alloc o).alloc (.cells #[.slice none 0 0] 69)) w.heap.size (w.heap.size + 1) [] (.slice none 0 0)) := Lib.hid (fun o =>
    ⟨blk_new2 _ _ _, ⟨rfl, .inl ⟨rfl, rfl⟩⟩, by omega, .nil⟩)
  go_enter Tryd.func25, Tryd.ntmps25
  go_wp2_with fail
  refine (c_collectFreeD t.size t 0 [] _ L B w.heap.size (w.heap.size + 1) _ _ (Nat.le_refl _) (HT.out.below (hbW.out _ _) hB) hB HO.out HNR.out (by omega) (by omega) (HSET.out _) (by go_size) (fun x hx => by cases hx) hK).mono ?_
  rintro e w1 ⟨rfl, v1, hset1, hstep1⟩
  have hb1 : Below w.heap.size w w1 := (hbW.out _ _).trans (hstep1.below (base := w.heap.size) (by omega) (by simp [Value.ownBlock]) (Nat.le_refl _) (by simp; omega))
  have hc1 : w1.cell? ⟨w.heap.size + 1, 0, none⟩ = some v1 := by rw [cell_of_row w1 _ 0 _ _ _ hset1.blk]; rfl
  have HI := Lib.hid (IsInts.own hset1.own)
  obtain ⟨A1, c1, rfl, _⟩ := HI.out
  clear hset1 hstep1
  go_wp2
  go_ret
  exact ⟨_, rfl, HI.out, hb1⟩
end Go.Proofs.YtdbflfakocaapaaDoor
