/- Contracts of the reference's wellFormed and TermValidate. -/
import Derived.Test.YtdjldmpfginkdaaGreatDoorValid
namespace Go.Proofs.YtdjldmpfginkdaaGreatDoor
open Go.RowKit

theorem Ty.wfs_false {ts : List Ty} (j : Nat) (hj : j < ts.length) (h : ts[j].wf = false) : Ty.wfs ts = false := by
  rw [Bool.eq_false_iff]
  intro e
  have := (Ty.wfs_iff ts).1 e j hj
  rw [h] at this
  cases this
/-- What wellFormed is to do on one term. -/
def WfAt (t : Ty) (L B : Nat) : Prop := ∀ (W : World) (v : Value), IsTy W L B t v → B ≤ W.heap.size → Calls Tryz.prog 78 #[v] W fun e w' => e = .returned (.bool t.wf) ∧ Below W.heap.size W w'

/-- All terms of a list satisfy P. -/
def AllAt (P : Ty → Prop) (ts : List Ty) : Prop := ∀ (j : Nat) (hj : j < ts.length), P ts[j]


set_option maxHeartbeats 2000000 in
theorem wf_walk (t : Ty) (w : World) (L B : Nat) (v : Value) (hv : IsTy w L B t v) (hB : B ≤ w.heap.size) (hok : t.ok) (hM : t.size ≤ 2 ^ 30) (ihw : AllAt (fun t => WfAt t L B) t.args) :
    Calls Tryz.prog 78 #[v] w fun e w' => e = .returned (.bool t.wf) ∧ Below w.heap.size w w' := by
  obtain ⟨A, c, rfl, hl⟩ := hv.args_
  clear hv
  have HL := Lib.hid hl; clear hl
  have IHW := Lib.hid ihw; clear ihw
  rw [Ty.ok_eq] at hok
  obtain ⟨hok1, hok2, hok3⟩ := hok
  unfold inI at hok1 hok2
  have HO3 := Lib.hid hok3; clear hok3
  have hbA : ∀ o : Obj, Below w.heap.size w (w.alloc o) := fun o => (Below.refl _ _).alloc (Nat.le_refl _) _
  have HBA := Lib.hid hbA; clear hbA
  have hle := Ty.len_le t.args
  have hM' : 1 + Ty.sizes t.args ≤ 2 ^ 30 := by rw [← Ty.size_eq]; exact hM
  have HW0 := Lib.hid (Ty.wf_eq t)
  clear hM
  generalize t.wf = res at *
  rcases okNode_cases t.kind t.name t.index t.args with ⟨h1, h2, hf⟩ | ⟨h1, h2, h3, hf⟩ | ⟨h1, h2, hf⟩
  · have HF : Hid (res = false) := Lib.hid (by rw [HW0.out, hf]; simp)
    clear hf HW0
    go_enter Tryz.func78, Tryz.ntmps78
    go_wp2
    go_ret
    exact ⟨ret_bool (by rw [HF.out]), HBA.out _⟩
  · have HF : Hid (res = false) := Lib.hid (by rw [HW0.out, hf]; simp)
    clear hf HW0
    rcases h1 with h1 | h1
    all_goals
      go_enter Tryz.func78, Tryz.ntmps78
      go_wp2
      all_goals
        go_ret
        exact ⟨ret_bool (by rw [HF.out]), HBA.out _⟩
  · have HF : Hid (res = (okKind t.kind t.name t.index t.args && Ty.wfs t.args)) := Lib.hid (by rw [HW0.out, hf])
    clear hf HW0
    have hempty : Hid (t.args.length = 0 → Ty.wfs t.args = true) := Lib.hid (fun h => by rw [List.eq_nil_of_length_eq_zero h]; simp [Ty.wfs])
    generalize t.kind = k, t.name = nm, t.index = ix, t.args = args at *
    have hcases : Hid (∀ m : Nat, m = args.length → ∀ b : Bool, (b = true → m = 0) → (b && Ty.wfs args) = b) := Lib.hid (fun m hm b hb => by
      cases b
      · rfl
      · rw [hempty.out (by rw [← hm]; exact hb rfl)]; rfl)
    clear hempty
    by_cases k0 : k = 0 ∨ k = 1
    · have HK : Hid (okKind k nm ix args = decide (args.length = 0)) := Lib.hid (by rw [Bool.eq_iff_iff]; simp [okKind, k0])
      have HF2 : Hid (res = decide (args.length = 0)) := Lib.hid (by rw [HF.out, HK.out]; exact hcases.out _ rfl _ (by simp))
      generalize args.length = n at *
      rcases k0 with rfl | rfl
      all_goals
        obtain h1 : nm.toList = [] := h1.resolve_left (by decide)
        obtain rfl : ix = 0 := by rcases h2 with h | h; (exact absurd h (by decide)); simpa using h
        clear h2
        go_enter Tryz.func78, Tryz.ntmps78
        go_wp2
        all_goals
          go_ret
          refine ⟨ret_bool ?_, HBA.out _⟩
          rw [HF2.out, Bool.eq_iff_iff]
          simp
    by_cases k5 : k = 5
    · subst k5
      obtain h1 : nm.toList = [] := h1.resolve_left (by decide)
      clear h2
      have HK : Hid (okKind 5 nm ix args = decide (args.length = 0 ∧ 0 ≤ ix ∧ ix ≤ 200)) := Lib.hid (by rw [Bool.eq_iff_iff]; simp [okKind, and_assoc])
      have HF2 : Hid (res = decide (args.length = 0 ∧ 0 ≤ ix ∧ ix ≤ 200)) := Lib.hid (by rw [HF.out, HK.out]; exact hcases.out _ rfl _ (by simp; intro h _ _; exact h))
      generalize args.length = n at *
      go_enter Tryz.func78, Tryz.ntmps78
      go_wp2
      all_goals
        go_ret
        refine ⟨ret_bool ?_, HBA.out _⟩
        rw [HF2.out, Bool.eq_iff_iff]
        simp
        try omega
    clear hcases
    have k0a : ¬ k = 0 := fun h => k0 (.inl h)
    have k0b : ¬ k = 1 := fun h => k0 (.inr h)
    clear k0
    generalize hn : args.length = n at *
    have Hn := Lib.hid hn; clear hn
    by_cases k3 : k = 3
    · subst k3
      obtain h1 : nm.toList = [] := h1.resolve_left (by decide)
      obtain rfl : ix = 0 := by rcases h2 with h | h; (exact absurd h (by decide)); simpa using h
      clear h2
      by_cases hn6 : n ≤ 6
      · have hn6' : ¬ 6 < (n : Int) := by omega
        have HW : Hid (res = Ty.wfs args) := Lib.hid (by rw [HF.out]; simp [okKind, Hn.out, hn6])
        go_enter Tryz.func78, Tryz.ntmps78
        go_wp2
        have hx : (w.alloc (.cells #[.int .i64 3, .string nm, .int .i64 0, .slice A n c] 33)).cell? ⟨w.heap.size, 3, none⟩ = some (.slice A n c) ∧ Below w.heap.size w (w.alloc (.cells #[.int .i64 3, .string nm, .int .i64 0, .slice A n c] 33)) ∧ w.heap.size < (w.alloc (.cells #[.int .i64 3, .string nm, .int .i64 0, .slice A n c] 33)).heap.size := ⟨by simp, HBA.out _, by simp⟩
        generalize w.alloc (.cells #[.int .i64 3, .string nm, .int .i64 0, .slice A n c] 33) = Wz at *
        obtain ⟨q3z, hbz, hltz⟩ := hx
        go_loopw [5] (fun i wr => ∃ j : Nat, j ≤ n ∧ i = .int .i64 j ∧ Hid (∀ (i : Nat) (hi : i < args.length), i < j → args[i].wf = true) ∧ wr.cell? ⟨w.heap.size, 3, none⟩ = some (.slice A n c) ∧ Below w.heap.size w wr ∧ w.heap.size < wr.heap.size) (fun i _ => n - (intOf i).toNat)
        case atStart => exact ⟨0, by omega, rfl, Lib.hid (fun _ _ h => by omega), q3z, hbz, hltz⟩
        case round =>
          clear q3z hbz hltz
          obtain ⟨j, hj, rfl, hall, b3, hb, hlt⟩ := hrel
          by_cases hjn : j < n
          · obtain ⟨g, o, A', c', hj', rfl, hg1, hg2, c0, c1, c2, c3, ht⟩ := HL.out.at_ (KeepIn.of_below hb hB) hjn
            have HCW := Lib.hid (IHW.out j hj' wr _ ht (by omega))
            have hfalse : Hid (args[j].wf = false → Ty.wfs args = false) := Lib.hid (Ty.wfs_false j hj')
            have htrue : Hid (args[j].wf = true → ∀ (i : Nat) (hi : i < args.length), i < j + 1 → args[i].wf = true) := Lib.hid (fun h i hi hij => by
              rcases Nat.lt_or_ge i j with h1 | h1
              · exact hall.out i hi h1
              · obtain rfl : i = j := by omega
                exact h)
            clear ht
            generalize args[j] = tj at *
            go_wp2_with fail
            refine HCW.out.mono ?_
            rintro e w2 ⟨rfl, hb2⟩
            cases hres : tj.wf
            · have hz := Lib.hid (hfalse.out hres)
              go_wp2
              go_ret
              exact ⟨ret_bool (by rw [HW.out, hz.out]), hb.trans (hb2.mono (by omega))⟩
            · have hz := Lib.hid (htrue.out hres)
              go_wp2
              go_roundw
              case rel => exact ⟨j + 1, by omega, by go_num, hz, by rw [hb2.cell (by exact hlt)]; exact b3, hb.trans (hb2.mono (by omega)), by have := hb2.size; omega⟩
              case measure => simp [intOf]; omega
          · obtain rfl : j = n := by omega
            have hz : Hid (Ty.wfs args = true) := Lib.hid ((Ty.wfs_iff args).2 fun i hi => hall.out i hi (by rw [← Hn.out]; exact hi))
            go_wp2
            go_ret
            exact ⟨ret_bool (by rw [HW.out, hz.out]), hb⟩
      · have hn6' : 6 < (n : Int) := by omega
        have HW : Hid (res = false) := Lib.hid (by rw [HF.out]; simp [okKind, Hn.out, hn6])
        go_enter Tryz.func78, Tryz.ntmps78
        go_wp2
        go_ret
        exact ⟨ret_bool (by rw [HW.out]), HBA.out _⟩
    by_cases k4 : k = 4
    · subst k4
      obtain h1 : nm.toList = [] := h1.resolve_left (by decide)
      obtain rfl : ix = 0 := by rcases h2 with h | h; (exact absurd h (by decide)); simpa using h
      clear h2
      by_cases hn6 : 2 ≤ n
      · have hn6' : ¬ (n : Int) < 2 := by omega
        have HW : Hid (res = Ty.wfs args) := Lib.hid (by rw [HF.out]; simp [okKind, Hn.out, hn6])
        go_enter Tryz.func78, Tryz.ntmps78
        go_wp2
        have hx : (w.alloc (.cells #[.int .i64 4, .string nm, .int .i64 0, .slice A n c] 33)).cell? ⟨w.heap.size, 3, none⟩ = some (.slice A n c) ∧ Below w.heap.size w (w.alloc (.cells #[.int .i64 4, .string nm, .int .i64 0, .slice A n c] 33)) ∧ w.heap.size < (w.alloc (.cells #[.int .i64 4, .string nm, .int .i64 0, .slice A n c] 33)).heap.size := ⟨by simp, HBA.out _, by simp⟩
        generalize w.alloc (.cells #[.int .i64 4, .string nm, .int .i64 0, .slice A n c] 33) = Wz at *
        obtain ⟨q3z, hbz, hltz⟩ := hx
        go_loopw [5] (fun i wr => ∃ j : Nat, j ≤ n ∧ i = .int .i64 j ∧ Hid (∀ (i : Nat) (hi : i < args.length), i < j → args[i].wf = true) ∧ wr.cell? ⟨w.heap.size, 3, none⟩ = some (.slice A n c) ∧ Below w.heap.size w wr ∧ w.heap.size < wr.heap.size) (fun i _ => n - (intOf i).toNat)
        case atStart => exact ⟨0, by omega, rfl, Lib.hid (fun _ _ h => by omega), q3z, hbz, hltz⟩
        case round =>
          clear q3z hbz hltz
          obtain ⟨j, hj, rfl, hall, b3, hb, hlt⟩ := hrel
          by_cases hjn : j < n
          · obtain ⟨g, o, A', c', hj', rfl, hg1, hg2, c0, c1, c2, c3, ht⟩ := HL.out.at_ (KeepIn.of_below hb hB) hjn
            have HCW := Lib.hid (IHW.out j hj' wr _ ht (by omega))
            have hfalse : Hid (args[j].wf = false → Ty.wfs args = false) := Lib.hid (Ty.wfs_false j hj')
            have htrue : Hid (args[j].wf = true → ∀ (i : Nat) (hi : i < args.length), i < j + 1 → args[i].wf = true) := Lib.hid (fun h i hi hij => by
              rcases Nat.lt_or_ge i j with h1 | h1
              · exact hall.out i hi h1
              · obtain rfl : i = j := by omega
                exact h)
            clear ht
            generalize args[j] = tj at *
            go_wp2_with fail
            refine HCW.out.mono ?_
            rintro e w2 ⟨rfl, hb2⟩
            cases hres : tj.wf
            · have hz := Lib.hid (hfalse.out hres)
              go_wp2
              go_ret
              exact ⟨ret_bool (by rw [HW.out, hz.out]), hb.trans (hb2.mono (by omega))⟩
            · have hz := Lib.hid (htrue.out hres)
              go_wp2
              go_roundw
              case rel => exact ⟨j + 1, by omega, by go_num, hz, by rw [hb2.cell (by exact hlt)]; exact b3, hb.trans (hb2.mono (by omega)), by have := hb2.size; omega⟩
              case measure => simp [intOf]; omega
          · obtain rfl : j = n := by omega
            have hz : Hid (Ty.wfs args = true) := Lib.hid ((Ty.wfs_iff args).2 fun i hi => hall.out i hi (by rw [← Hn.out]; exact hi))
            go_wp2
            go_ret
            exact ⟨ret_bool (by rw [HW.out, hz.out]), hb⟩
      · have hn6' : (n : Int) < 2 := by omega
        have HW : Hid (res = false) := Lib.hid (by rw [HF.out]; simp [okKind, Hn.out, hn6])
        go_enter Tryz.func78, Tryz.ntmps78
        go_wp2
        go_ret
        exact ⟨ret_bool (by rw [HW.out]), HBA.out _⟩
    by_cases k6 : k = 6
    · subst k6
      obtain h1 : nm.toList = [] := h1.resolve_left (by decide)
      obtain rfl : ix = 0 := by rcases h2 with h | h; (exact absurd h (by decide)); simpa using h
      clear h2
      by_cases h2 : n = 2
      · have hj0 : 0 < args.length := by rw [Hn.out]; omega
        have HK := Lib.hid (okKind_6 (nm := nm) (ix := 0) (show args.length = 2 by rw [Hn.out]; exact h2))
        obtain ⟨g, o, A', c', hj', rfl, hg1, hg2, c0, c1, c2, c3, ht⟩ := HL.out.at_ (KeepIn.refl L B w) (j := 0) (by omega)
        have hg := Ty.size_get 0 hj'
        have hoj := Lib.hid (Ty.ok_get HO3.out 0 hj')
        have HT := Lib.hid ht
        clear ht
        have hHK : Hid (okKind 6 nm 0 args = (args[0]'hj').closed 0) := HK
        clear HK
        generalize args[0]'hj' = tj at *
        simp only [Nat.zero_mul, Nat.add_zero] at c0 c1 c2 c3
        have H2a : ((n : Int) != 2) = false := by rw [h2]; rfl
        have hgs : g < w.heap.size := by omega
        have H0 : 0 < n := by omega
        have H2' := Lib.hid h2
        clear h2
        cases hres : tj.closed 0
        · have HW : Hid (res = false) := Lib.hid (by rw [HF.out, hHK.out, hres]; simp)
          go_enter Tryz.func78, Tryz.ntmps78
          go_wp2_with fail
          refine (c_TermClosed tj _ L B _ (HT.out.below (HBA.out _) hB) (by go_size) hoj.out (by omega)).mono ?_
          rintro e w1 ⟨rfl, hb1⟩
          go_wp2
          go_ret
          exact ⟨ret_bool (by rw [HW.out]), (HBA.out _).trans (hb1.mono (by go_size))⟩
        · have HW : Hid (res = Ty.wfs args) := Lib.hid (by rw [HF.out, hHK.out, hres]; simp)
          go_enter Tryz.func78, Tryz.ntmps78
          go_wp2_with fail
          refine (c_TermClosed tj _ L B _ (HT.out.below (HBA.out _) hB) (by go_size) hoj.out (by omega)).mono ?_
          rintro e w1 ⟨rfl, hb1⟩
          have hs1 := hb1.size
          simp at hs1
          have hbb : Below w.heap.size w w1 := (HBA.out _).trans (hb1.mono (by go_size))
          have q3 : w1.cell? ⟨w.heap.size, 3, none⟩ = some (.slice (some ⟨g, o, none⟩) n c) := by rw [hb1.cell (by simp)]; simp
          clear hb1 c0 c1 c2 c3 hg1 hg2 hj' hj0 HT hoj hHK hg
          generalize (some (⟨g, o, none⟩ : Addr)) = A at *
          go_wp2
          have hx : (w1).cell? ⟨w.heap.size, 3, none⟩ = some (.slice A n c) ∧ Below w.heap.size w (w1) ∧ w.heap.size < (w1).heap.size := ⟨q3, hbb, by omega⟩
          generalize w1 = Wz at *
          obtain ⟨q3z, hbz, hltz⟩ := hx
          go_loopw [5] (fun i wr => ∃ j : Nat, j ≤ n ∧ i = .int .i64 j ∧ Hid (∀ (i : Nat) (hi : i < args.length), i < j → args[i].wf = true) ∧ wr.cell? ⟨w.heap.size, 3, none⟩ = some (.slice A n c) ∧ Below w.heap.size w wr ∧ w.heap.size < wr.heap.size) (fun i _ => n - (intOf i).toNat)
          case atStart => exact ⟨0, by omega, rfl, Lib.hid (fun _ _ h => by omega), q3z, hbz, hltz⟩
          case round =>
            clear q3z hbz hltz
            obtain ⟨j, hj, rfl, hall, b3, hb, hlt⟩ := hrel
            by_cases hjn : j < n
            · obtain ⟨g, o, A', c', hj', rfl, hg1, hg2, c0, c1, c2, c3, ht⟩ := HL.out.at_ (KeepIn.of_below hb hB) hjn
              have HCW := Lib.hid (IHW.out j hj' wr _ ht (by omega))
              have hfalse : Hid (args[j].wf = false → Ty.wfs args = false) := Lib.hid (Ty.wfs_false j hj')
              have htrue : Hid (args[j].wf = true → ∀ (i : Nat) (hi : i < args.length), i < j + 1 → args[i].wf = true) := Lib.hid (fun h i hi hij => by
                rcases Nat.lt_or_ge i j with h1 | h1
                · exact hall.out i hi h1
                · obtain rfl : i = j := by omega
                  exact h)
              clear ht
              generalize args[j] = tj at *
              go_wp2_with fail
              refine HCW.out.mono ?_
              rintro e w2 ⟨rfl, hb2⟩
              cases hres : tj.wf
              · have hz := Lib.hid (hfalse.out hres)
                go_wp2
                go_ret
                exact ⟨ret_bool (by rw [HW.out, hz.out]), hb.trans (hb2.mono (by omega))⟩
              · have hz := Lib.hid (htrue.out hres)
                go_wp2
                go_roundw
                case rel => exact ⟨j + 1, by omega, by go_num, hz, by rw [hb2.cell (by exact hlt)]; exact b3, hb.trans (hb2.mono (by omega)), by have := hb2.size; omega⟩
                case measure => simp [intOf]; omega
            · obtain rfl : j = n := by omega
              have hz : Hid (Ty.wfs args = true) := Lib.hid ((Ty.wfs_iff args).2 fun i hi => hall.out i hi (by rw [← Hn.out]; exact hi))
              go_wp2
              go_ret
              exact ⟨ret_bool (by rw [HW.out, hz.out]), hb⟩
      · have HK := Lib.hid (okKind_6' (nm := nm) (ix := 0) (show ¬ args.length = 2 by rw [Hn.out]; exact h2))
        have H2a : ((n : Int) != 2) = true := by rw [bne_iff_ne]; omega
        have HW : Hid (res = false) := Lib.hid (by rw [HF.out, HK.out]; simp)
        go_enter Tryz.func78, Tryz.ntmps78
        go_wp2
        go_ret
        exact ⟨ret_bool (by rw [HW.out]), HBA.out _⟩
    by_cases k2 : k = 2
    · subst k2
      obtain rfl : ix = 0 := by rcases h2 with h | h; (exact absurd h (by decide)); simpa using h
      clear h2 h1
      have HK : Hid (okKind 2 nm 0 args = (isIdent nm && !isKw nm && decide (n ≤ 6) && Ty.plains args)) := Lib.hid (by simp [okKind, Hn.out])
      have hA1 : Hid (∀ w1 : World, w1 = w.alloc (.cells #[.int .i64 2, .string nm, .int .i64 0, .slice A n c] 33) → w1.cell? ⟨w.heap.size, 3, none⟩ = some (.slice A n c) ∧ Below w.heap.size w w1 ∧ w.heap.size < w1.heap.size) := Lib.hid (fun w1 h => by
        subst h
        exact ⟨by simp, HBA.out _, by simp⟩)
      cases hid : isIdent nm
      · have HW : Hid (res = false) := Lib.hid (by rw [HF.out, HK.out, hid]; simp)
        go_enter Tryz.func78, Tryz.ntmps78
        go_wp2_with fail
        refine (c_rIsIdent nm _).mono ?_
        rintro e w1 ⟨rfl, rfl⟩
        go_wp2
        go_ret
        exact ⟨ret_bool (by rw [HW.out]), HBA.out _⟩
      cases hkw : isKw nm
      rotate_left
      · have HW : Hid (res = false) := Lib.hid (by rw [HF.out, HK.out, hkw]; simp)
        go_enter Tryz.func78, Tryz.ntmps78
        go_wp2_with fail
        refine (c_rIsIdent nm _).mono ?_
        rintro e w1 ⟨rfl, rfl⟩
        go_wp2_with fail
        refine (c_IsTypeKeyword nm _).mono ?_
        rintro e w1 ⟨rfl, rfl⟩
        go_wp2
        go_ret
        exact ⟨ret_bool (by rw [HW.out]), HBA.out _⟩
      by_cases hn6 : n ≤ 6
      rotate_left
      · have hn6' : 6 < (n : Int) := by omega
        have HW : Hid (res = false) := Lib.hid (by rw [HF.out, HK.out]; simp [hn6])
        go_enter Tryz.func78, Tryz.ntmps78
        go_wp2_with fail
        refine (c_rIsIdent nm _).mono ?_
        rintro e w1 ⟨rfl, rfl⟩
        go_wp2_with fail
        refine (c_IsTypeKeyword nm _).mono ?_
        rintro e w1 ⟨rfl, rfl⟩
        go_wp2
        go_ret
        exact ⟨ret_bool (by rw [HW.out]), HBA.out _⟩
      have hn6' : ¬ 6 < (n : Int) := by omega
      have HFP : Hid (res = (Ty.plains args && Ty.wfs args)) := Lib.hid (by rw [HF.out, HK.out, hid, hkw]; simp [hn6])
      go_enter Tryz.func78, Tryz.ntmps78
      go_wp2_with fail
      refine (c_rIsIdent nm _).mono ?_
      rintro e w1 ⟨rfl, rfl⟩
      go_wp2_with fail
      refine (c_IsTypeKeyword nm _).mono ?_
      rintro e w1 ⟨rfl, rfl⟩
      go_wp2
      generalize hWW : w.alloc _ = W1 at *
      obtain ⟨q3, hbb, hltt⟩ := hA1.out W1 (by first | rfl | exact hWW.symm)
      clear hWW hA1
      go_loopw [4] (fun i wr => ∃ j : Nat, j ≤ n ∧ i = .int .i64 j ∧ Hid (∀ (i : Nat) (hi : i < args.length), i < j → args[i].plain = true) ∧ wr.cell? ⟨w.heap.size, 3, none⟩ = some (.slice A n c) ∧ Below w.heap.size w wr ∧ w.heap.size < wr.heap.size) (fun i _ => n - (intOf i).toNat)
      case atStart => exact ⟨0, by omega, rfl, Lib.hid (fun _ _ h => by omega), q3, hbb, hltt⟩
      case round =>
        clear q3 hbb hltt
        obtain ⟨j, hj, rfl, hall, b3, hb, hlt⟩ := hrel
        by_cases hjn : j < n
        · obtain ⟨g, o, A', c', hj', rfl, hg1, hg2, c0, c1, c2, c3, ht⟩ := HL.out.at_ (KeepIn.of_below hb hB) hjn
          have hg := Ty.size_get j hj'
          have HCP := Lib.hid (c_TermPlain _ args[j] wr L B _ (Nat.le_refl _) ht (by omega) (Ty.ok_get HO3.out j hj') (by omega))
          have hfalse : Hid (args[j].plain = false → Ty.plains args = false) := Lib.hid (Ty.plains_false j hj')
          have htrue : Hid (args[j].plain = true → ∀ (i : Nat) (hi : i < args.length), i < j + 1 → args[i].plain = true) := Lib.hid (fun h i hi hij => by
            rcases Nat.lt_or_ge i j with h1 | h1
            · exact hall.out i hi h1
            · obtain rfl : i = j := by omega
              exact h)
          clear ht
          generalize args[j] = tj at *
          go_wp2_with fail
          refine HCP.out.mono ?_
          rintro e w2 ⟨rfl, hb2⟩
          cases hres : tj.plain
          · have hz := Lib.hid (hfalse.out hres)
            go_wp2
            go_ret
            exact ⟨ret_bool (by rw [HFP.out, hz.out]; simp), hb.trans (hb2.mono (by omega))⟩
          · have hz := Lib.hid (htrue.out hres)
            go_wp2
            go_roundw
            case rel => exact ⟨j + 1, by omega, by go_num, hz, by rw [hb2.cell (by exact hlt)]; exact b3, hb.trans (hb2.mono (by omega)), by have := hb2.size; omega⟩
            case measure => simp [intOf]; omega
        · obtain rfl : j = n := by omega
          have hz : Hid (Ty.plains args = true) := Lib.hid ((Ty.plains_iff args).2 fun i hi => hall.out i hi (by rw [← Hn.out]; exact hi))
          have HW : Hid (res = Ty.wfs args) := Lib.hid (by rw [HFP.out, hz.out]; simp)
          go_wp2
          have hx : (wr).cell? ⟨w.heap.size, 3, none⟩ = some (.slice A j c) ∧ Below w.heap.size w (wr) ∧ w.heap.size < (wr).heap.size := ⟨b3, hb, hlt⟩
          generalize wr = Wz at *
          obtain ⟨q3z, hbz, hltz⟩ := hx
          go_loopw [5] (fun i wr => ∃ j2 : Nat, j2 ≤ j ∧ i = .int .i64 j2 ∧ Hid (∀ (i : Nat) (hi : i < args.length), i < j2 → args[i].wf = true) ∧ wr.cell? ⟨w.heap.size, 3, none⟩ = some (.slice A j c) ∧ Below w.heap.size w wr ∧ w.heap.size < wr.heap.size) (fun i _ => j - (intOf i).toNat)
          case atStart => exact ⟨0, by omega, rfl, Lib.hid (fun _ _ h => by omega), q3z, hbz, hltz⟩
          case round =>
            clear q3z hbz hltz
            clear hall b3 hb hlt hj hjn
            obtain ⟨j2, hj, rfl, hall, b3, hb, hlt⟩ := hrel
            by_cases hjn : j2 < j
            · obtain ⟨g, o, A', c', hj', rfl, hg1, hg2, c0, c1, c2, c3, ht⟩ := HL.out.at_ (KeepIn.of_below hb hB) hjn
              have HCW := Lib.hid (IHW.out j2 hj' wr _ ht (by omega))
              have hfalse : Hid (args[j2].wf = false → Ty.wfs args = false) := Lib.hid (Ty.wfs_false j2 hj')
              have htrue : Hid (args[j2].wf = true → ∀ (i : Nat) (hi : i < args.length), i < j2 + 1 → args[i].wf = true) := Lib.hid (fun h i hi hij => by
                rcases Nat.lt_or_ge i j2 with h1 | h1
                · exact hall.out i hi h1
                · obtain rfl : i = j2 := by omega
                  exact h)
              clear ht
              generalize args[j2] = tj at *
              go_wp2_with fail
              refine HCW.out.mono ?_
              rintro e w2 ⟨rfl, hb2⟩
              cases hres : tj.wf
              · have hz := Lib.hid (hfalse.out hres)
                go_wp2
                go_ret
                exact ⟨ret_bool (by rw [HW.out, hz.out]), hb.trans (hb2.mono (by omega))⟩
              · have hz := Lib.hid (htrue.out hres)
                go_wp2
                go_roundw
                case rel => exact ⟨j2 + 1, by omega, by go_num, hz, by rw [hb2.cell (by exact hlt)]; exact b3, hb.trans (hb2.mono (by omega)), by have := hb2.size; omega⟩
                case measure => simp [intOf]; omega
            · obtain rfl : j2 = j := by omega
              have hz : Hid (Ty.wfs args = true) := Lib.hid ((Ty.wfs_iff args).2 fun i hi => hall.out i hi (by rw [← Hn.out]; exact hi))
              go_wp2
              go_ret
              exact ⟨ret_bool (by rw [HW.out, hz.out]), hb⟩
    · have k5 : ¬ k = 5 := k5
      have HW : Hid (res = false) := Lib.hid (by rw [HF.out, okKind_other k0a k0b k2 k3 k4 k5 k6]; simp)
      have e0 : (k == 0) = false := by rw [beq_eq_false_iff_ne]; exact k0a
      have e1 : (k == 1) = false := by rw [beq_eq_false_iff_ne]; exact k0b
      have e2 : (k == 2) = false := by rw [beq_eq_false_iff_ne]; exact k2
      have e3 : (k == 3) = false := by rw [beq_eq_false_iff_ne]; exact k3
      have e4 : (k == 4) = false := by rw [beq_eq_false_iff_ne]; exact k4
      have e5 : (k == 5) = false := by rw [beq_eq_false_iff_ne]; exact k5
      have e6 : (k == 6) = false := by rw [beq_eq_false_iff_ne]; exact k6
      have f2 : (k != 2) = true := by rw [bne_iff_ne]; exact k2
      have f5 : (k != 5) = true := by rw [bne_iff_ne]; exact k5
      obtain h1 : nm.toList = [] := h1.resolve_left (by rw [f2]; simp)
      obtain rfl : ix = 0 := by rcases h2 with h | h; (rw [f5] at h; exact absurd h (by simp)); simpa using h
      clear h2
      go_enter Tryz.func78, Tryz.ntmps78
      go_wp2
      all_goals
        go_ret
        exact ⟨ret_bool (by rw [HW.out]), HBA.out _⟩

theorem c_wellFormed (N : Nat) : ∀ (t : Ty) (L B : Nat), t.size ≤ N → t.ok → t.size ≤ 2 ^ 30 → WfAt t L B := by
  induction N with
  | zero => intro t L B h; have := t.size_pos; omega
  | succ N ih =>
    intro t L B hN hok hM W v hv hB
    refine wf_walk t W L B v hv hB hok hM (fun j hj => ?_)
    have hg := Ty.size_get j hj
    have hsz := Ty.size_eq t
    rw [Ty.ok_eq] at hok
    exact ih _ L B (by omega) (Ty.ok_get hok.2.2 j hj) (by omega)

set_option maxHeartbeats 1000000 in
theorem c_TermValidate (t : Ty) (w : World) (L B : Nat) (v : Value) (hv : IsTy w L B t v) (hB : B ≤ w.heap.size) (hok : t.ok) (hM : t.size ≤ 2 ^ 30) :
    Calls Tryz.prog 54 #[v] w fun e w' => e = .returned (.int .i64 t.validate) ∧ Below w.heap.size w w' := by
  have hE := hM
  have HT := Lib.hid hv
  obtain ⟨A, c, rfl, _⟩ := hv.args_
  clear hv
  have hdp := Ty.depth_le t
  have HS := Lib.hid (fun (W : World) (hW : Below w.heap.size w W) => c_TermSize t.size t W L B _ (Nat.le_refl _) (HT.out.below hW hB) (Nat.le_trans hB hW.size) (by omega))
  have HD := Lib.hid (fun (W : World) (hW : Below w.heap.size w W) => c_TermDepth t.size t W L B _ (Nat.le_refl _) (HT.out.below hW hB) (Nat.le_trans hB hW.size) (by omega))
  have HVN := Lib.hid (fun (W : World) (hW : Below w.heap.size w W) => c_wellFormed t.size t L B (Nat.le_refl _) hok hM W _ (HT.out.below hW hB) (Nat.le_trans hB hW.size))
  have HB0 : Hid (∀ o : Obj, Below w.heap.size w (w.alloc o)) := Lib.hid (fun o => (Below.refl _ _).alloc (Nat.le_refl _) _)
  clear hok hE
  by_cases hbig : 200 < t.size
  · have HF := Lib.hid (Ty.validate_big1 hbig)
    go_enter Tryz.func54, Tryz.ntmps54
    go_wp2_with fail
    refine (HS.out _ (HB0.out _)).mono ?_
    rintro e w1 ⟨rfl, hb1⟩
    go_wp2
    go_ret
    exact ⟨ret_int (by rw [HF.out]), (HB0.out _).trans (hb1.mono (by go_size))⟩
  have HBOX : Hid (∀ (w1 : World) (o : Obj), Below (w.alloc (.cells #[.int .i64 t.kind, .string t.name, .int .i64 t.index, .slice A t.args.length c] 33)).heap.size (w.alloc (.cells #[.int .i64 t.kind, .string t.name, .int .i64 t.index, .slice A t.args.length c] 33)) w1 →
      w1.cell? ⟨w.heap.size, 0, none⟩ = some (.int .i64 t.kind) ∧ w1.cell? ⟨w.heap.size, 1, none⟩ = some (.string t.name) ∧ w1.cell? ⟨w.heap.size, 2, none⟩ = some (.int .i64 t.index) ∧ w1.cell? ⟨w.heap.size, 3, none⟩ = some (.slice A t.args.length c) ∧ Below w.heap.size w w1 ∧ w.heap.size < w1.heap.size) := Lib.hid (fun w1 o hb => by
    have hs := hb.size
    simp at hs
    exact ⟨by rw [hb.cell (by simp)]; simp, by rw [hb.cell (by simp)]; simp, by rw [hb.cell (by simp)]; simp, by rw [hb.cell (by simp)]; simp, (HB0.out _).trans (hb.mono (by go_size)), by omega⟩)
  by_cases hdeep : 12 < t.depth
  · have HF := Lib.hid (Ty.validate_big2 hdeep)
    go_enter Tryz.func54, Tryz.ntmps54
    go_wp2_with fail
    refine (HS.out _ (HB0.out _)).mono ?_
    rintro e w1 ⟨rfl, hb1⟩
    obtain ⟨q0, q1, q2, q3, hbb, hlt⟩ := HBOX.out w1 default hb1
    clear hb1
    go_wp2_with fail
    refine (HD.out _ hbb).mono ?_
    rintro e w2 ⟨rfl, hb2⟩
    go_wp2
    go_ret
    exact ⟨ret_int (by rw [HF.out]), hbb.trans (hb2.mono (by omega))⟩
  have HF := Lib.hid (Ty.validate_small hbig hdeep)
  cases hwf : t.wf
  all_goals
    go_enter Tryz.func54, Tryz.ntmps54
    go_wp2_with fail
    refine (HS.out _ (HB0.out _)).mono ?_
    rintro e w1 ⟨rfl, hb1⟩
    obtain ⟨q0, q1, q2, q3, hbb, hlt⟩ := HBOX.out w1 default hb1
    clear hb1
    go_wp2_with fail
    refine (HD.out _ hbb).mono ?_
    rintro e w2 ⟨rfl, hb2⟩
    have hbb2 := hbb.trans (hb2.mono (by omega))
    have q0' : w2.cell? ⟨w.heap.size, 0, none⟩ = some (.int .i64 t.kind) := by rw [hb2.cell (by exact hlt)]; exact q0
    have q1' : w2.cell? ⟨w.heap.size, 1, none⟩ = some (.string t.name) := by rw [hb2.cell (by exact hlt)]; exact q1
    have q2' : w2.cell? ⟨w.heap.size, 2, none⟩ = some (.int .i64 t.index) := by rw [hb2.cell (by exact hlt)]; exact q2
    have q3' : w2.cell? ⟨w.heap.size, 3, none⟩ = some (.slice A t.args.length c) := by rw [hb2.cell (by exact hlt)]; exact q3
    have hs2 := hb2.size
    clear q0 q1 q2 q3 hb2 hbb
    go_wp2_with fail
    refine (HVN.out _ hbb2).mono ?_
    rintro e w3 ⟨rfl, hb3⟩
    go_wp2
    go_ret
    exact ⟨ret_int (by rw [HF.out, hwf]; simp), hbb2.trans (hb3.mono (by omega))⟩
end Go.Proofs.YtdjldmpfginkdaaGreatDoor
