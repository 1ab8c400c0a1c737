/- Contracts of the functions on identifiers, of the program and of the reference.
  Contracts of binders and closed.
  Contracts of the reference's freeVars, TermFreeVars, TermClosed, TermPlain.
  Contracts of slices.IndexFunc and slices.ContainsFunc at slices of terms, for every predicate that has a contract.
  Contracts of typeterm.IsPlain and plainArgs. -/
import Derived.Test.YtdjldmpfginkdaaGreatDoorGBase
import Derived.Deep.RegionHeld3
import Derived.Deep.DrawnRows
import Derived.Test.YtdjldmpfginkdaaGreatDoorGInts
namespace Go.Proofs.YtdjldmpfginkdaaGreatDoor
open Go.RowKit

set_option maxHeartbeats 400000 in
theorem c_isLetter (c : Int) (w : World) : Calls Tryz.prog 74 #[.int .u8 c] w fun e w' => e = .returned (.bool (isLet c)) ∧ w = w' := by
  go_enter Tryz.func74, Tryz.ntmps74
  go_wp2
  all_goals (go_ret; refine ⟨ret_bool ?_, rfl⟩; rw [Bool.eq_iff_iff]; simp [isLet]; omega)
set_option maxHeartbeats 400000 in
theorem c_xisLetter (c : Int) (w : World) : Calls Tryz.prog 121 #[.int .u8 c] w fun e w' => e = .returned (.bool (isLet c)) ∧ w = w' := by
  go_enter Tryz.func121, Tryz.ntmps121
  go_wp2
  all_goals (go_ret; refine ⟨ret_bool ?_, rfl⟩; rw [Bool.eq_iff_iff]; simp [isLet]; omega)
set_option maxHeartbeats 400000 in
theorem c_isDigit (c : Int) (w : World) : Calls Tryz.prog 90 #[.int .u8 c] w fun e w' => e = .returned (.bool (isDig c)) ∧ w = w' := by
  go_enter Tryz.func90, Tryz.ntmps90
  go_wp2
  all_goals (go_ret; refine ⟨ret_bool ?_, rfl⟩; rw [Bool.eq_iff_iff]; simp [isDig]; omega)
set_option maxHeartbeats 400000 in
theorem c_xisDigit (c : Int) (w : World) : Calls Tryz.prog 132 #[.int .u8 c] w fun e w' => e = .returned (.bool (isDig c)) ∧ w = w' := by
  go_enter Tryz.func132, Tryz.ntmps132
  go_wp2
  all_goals (go_ret; refine ⟨ret_bool ?_, rfl⟩; rw [Bool.eq_iff_iff]; simp [isDig]; omega)
set_option maxHeartbeats 400000 in
theorem c_isWordByte (c : Int) (w : World) : Calls Tryz.prog 75 #[.int .u8 c] w fun e w' => e = .returned (.bool (isWB c)) ∧ w = w' := by
  cases hl : isLet c <;> cases hd : isDig c
  all_goals
    go_enter Tryz.func75, Tryz.ntmps75
    go_wp2_with (first | (go_at_call 74; refine (c_isLetter _ _).mono ?_; rintro e w' ⟨rfl, rfl⟩) | (go_at_call 90; refine (c_isDigit _ _).mono ?_; rintro e w' ⟨rfl, rfl⟩))
    all_goals (go_ret; refine ⟨ret_bool ?_, rfl⟩; simp_all [isWB])
set_option maxHeartbeats 400000 in
theorem c_xisWordByte (c : Int) (w : World) : Calls Tryz.prog 124 #[.int .u8 c] w fun e w' => e = .returned (.bool (isWB c)) ∧ w = w' := by
  cases hl : isLet c <;> cases hd : isDig c
  all_goals
    go_enter Tryz.func124, Tryz.ntmps124
    go_wp2_with (first | (go_at_call 121; refine (c_xisLetter _ _).mono ?_; rintro e w' ⟨rfl, rfl⟩) | (go_at_call 132; refine (c_xisDigit _ _).mono ?_; rintro e w' ⟨rfl, rfl⟩))
    all_goals (go_ret; refine ⟨ret_bool ?_, rfl⟩; simp_all [isWB])
set_option maxHeartbeats 400000 in
theorem c_IsIdent1 (c : Int) (w : World) : Calls Tryz.prog 123 #[.int .u8 c] w fun e w' => e = .returned (.bool (okB c)) ∧ w = w' := by
  by_cases h : c = 45
  · subst h
    go_enter Tryz.func123, Tryz.ntmps123
    go_wp2
    go_ret
    exact ⟨rfl, rfl⟩
  · have h1 : (c == 45) = false := by simpa using h
    have h2 : (c != 45) = true := by simpa using h
    go_enter Tryz.func123, Tryz.ntmps123
    go_wp2_with (go_at_call 124; refine (c_xisWordByte _ _).mono ?_; rintro e w' ⟨rfl, rfl⟩)
    go_ret
    exact ⟨ret_bool (by simp [okB, h]), rfl⟩
set_option maxHeartbeats 400000 in
theorem c_every (s : ByteArray) (w : World) (hs : s.size ≤ 24) : Calls Tryz.prog 122 #[.string s, .func (.func 123) #[] #[]] w fun e w' => e = .returned (.bool (everyB s)) ∧ w = w' := by
  go_enter Tryz.func122, Tryz.ntmps122
  go_wp2
  go_loop [5] (fun i => ∃ j : Nat, j ≤ s.size ∧ i = .int .i64 j ∧ Hid (everyTo s j = true)) (fun i => s.size - (intOf i).toNat)
  case atStart => exact ⟨0, by omega, rfl, Lib.hid (everyTo_zero s)⟩
  case round =>
    obtain ⟨j, hj, rfl, H⟩ := hrel
    by_cases hlt : j < s.size
    · have hts := Lib.hid (everyTo_succ s j hlt)
      cases hok : okB (byteI s[j])
      · have hf := Lib.hid (everyTo_false s j hlt hok)
        go_wp2_with fail
        refine (c_IsIdent1 (byteI s[j]) _).mono ?_
        rintro e w' ⟨rfl, rfl⟩
        go_wp2
        go_ret
        exact ⟨ret_bool (by rw [hf.out]), rfl⟩
      · go_wp2_with fail
        refine (c_IsIdent1 (byteI s[j]) _).mono ?_
        rintro e w' ⟨rfl, rfl⟩
        go_wp2
        go_round
        case rel => exact ⟨j + 1, by omega, by go_num, by rw [hts.out, H.out]; exact hok⟩
        case measure => simp [intOf]; omega
    · obtain rfl : j = s.size := by omega
      go_wp2
      go_ret
      exact ⟨ret_bool (by rw [everyB, H.out]), rfl⟩

theorem byteI_at (s : ByteArray) (h : 0 < s.size) : byteI (s.data.getD 0 0) = byteI s[0] := by
  have h' : 0 < s.data.size := h
  rw [Array.getD_eq_getD_getElem?, Array.getElem?_eq_getElem h']; rfl
set_option maxHeartbeats 400000 in
theorem c_xIsIdent (s : ByteArray) (w : World) : Calls Tryz.prog 105 #[.string s] w fun e w' => e = .returned (.bool (isIdent s)) ∧ w = w' := by
  by_cases h0 : s.size = 0
  · have h1 := (toList_nil s).2 h0
    have hf : Hid (isIdent s = false) := Lib.hid (by simp [isIdent, h0])
    clear h0
    go_enter Tryz.func105, Tryz.ntmps105
    go_wp2_with fail
    go_ret
    exact ⟨ret_bool (by rw [hf.out]), rfl⟩
  · have h1 : ¬ s.toList = [] := fun e => h0 ((toList_nil s).1 e)
    have hp : 0 < s.size := by omega
    by_cases h24 : s.size ≤ 24
    · have h24' : (s.size : Int) ≤ 24 := by omega
      cases hl : isLet (byteI s[0])
      · have hf : Hid (isIdent s = false) := Lib.hid (by simp only [isIdent]; rw [byteI_at s hp, hl]; simp)
        go_enter Tryz.func105, Tryz.ntmps105
        go_wp2_with fail
        refine (c_xisLetter (byteI s[0]) _).mono ?_
        rintro e w' ⟨rfl, rfl⟩
        go_wp2_with fail
        go_ret
        exact ⟨ret_bool (by rw [hf.out]), rfl⟩
      · have hf : Hid (isIdent s = everyB s) := Lib.hid (by simp only [isIdent]; rw [byteI_at s hp, hl]; simp; omega)
        go_enter Tryz.func105, Tryz.ntmps105
        go_wp2_with fail
        refine (c_xisLetter (byteI s[0]) _).mono ?_
        rintro e w' ⟨rfl, rfl⟩
        go_wp2_with fail
        refine (c_every s _ h24).mono ?_
        rintro e w' ⟨rfl, rfl⟩
        go_wp2_with fail
        go_ret
        exact ⟨ret_bool (by rw [hf.out]; simp [h1]), rfl⟩
    · have h24' : 24 < (s.size : Int) := by omega
      have hf : Hid (isIdent s = false) := Lib.hid (by simp [isIdent]; omega)
      go_enter Tryz.func105, Tryz.ntmps105
      go_wp2_with fail
      go_ret
      exact ⟨ret_bool (by rw [hf.out]), rfl⟩
set_option maxHeartbeats 400000 in
theorem c_rIsIdent (s : ByteArray) (w : World) : Calls Tryz.prog 53 #[.string s] w fun e w' => e = .returned (.bool (isIdent s)) ∧ w = w' := by
  by_cases h0 : 1 ≤ s.size
  · have hp : 0 < s.size := by omega
    have hp' : 1 ≤ (s.size : Int) := by omega
    by_cases h24 : s.size ≤ 24
    · have h24' : (s.size : Int) ≤ 24 := by omega
      cases hl : isLet (byteI s[0])
      · have hf : Hid (isIdent s = false) := Lib.hid (by simp only [isIdent]; rw [byteI_at s hp, hl]; simp)
        go_enter Tryz.func53, Tryz.ntmps53
        go_wp2_with fail
        refine (c_isLetter (byteI s[0]) _).mono ?_
        rintro e w' ⟨rfl, rfl⟩
        go_wp2_with fail
        go_ret
        exact ⟨ret_bool (by rw [hf.out]), rfl⟩
      · have hf : Hid (isIdent s = everyB s) := Lib.hid (by simp only [isIdent]; rw [byteI_at s hp, hl]; simp; omega)
        go_enter Tryz.func53, Tryz.ntmps53
        go_wp2_with fail
        refine (c_isLetter (byteI s[0]) _).mono ?_
        rintro e w' ⟨rfl, rfl⟩
        go_wp2_with fail
        go_loop [3] (fun i => ∃ j : Nat, j ≤ s.size ∧ i = .int .i64 j ∧ Hid (everyTo s j = true)) (fun i => s.size - (intOf i).toNat)
        case atStart => exact ⟨0, by omega, rfl, Lib.hid (everyTo_zero s)⟩
        case round =>
          obtain ⟨j, hj, rfl, H⟩ := hrel
          by_cases hlt : j < s.size
          · have hts := Lib.hid (everyTo_succ s j hlt)
            cases hw : isWB (byteI s[j])
            · have hf2 := Lib.hid (everyTo_false s j hlt (by simp [okB, hw]))
              go_wp2_with fail
              refine (c_isWordByte (byteI s[j]) _).mono ?_
              rintro e w' ⟨rfl, rfl⟩
              go_wp2
              go_ret
              exact ⟨ret_bool (by rw [hf.out, hf2.out]), rfl⟩
            · by_cases h45 : byteI s[j] = 45
              · have hf2 := Lib.hid (everyTo_false s j hlt (by simp [okB, h45]))
                have H45 : ((s[j].toNat : Int) == 45) = true := by rw [beq_iff_eq]; exact h45
                have HW := Lib.hid hw
                clear h45
                go_wp2_with fail
                refine (c_isWordByte (byteI s[j]) _).mono ?_
                rintro e w' ⟨rfl, rfl⟩
                go_wp2
                go_ret
                exact ⟨ret_bool (by rw [hf.out, hf2.out]), rfl⟩
              · have hok : Hid (okB (byteI s[j]) = true) := Lib.hid (by simp [okB, hw, h45])
                have H45 : ((s[j].toNat : Int) == 45) = false := by rw [beq_eq_false_iff_ne]; exact h45
                clear h45
                go_wp2_with fail
                refine (c_isWordByte (byteI s[j]) _).mono ?_
                rintro e w' ⟨rfl, rfl⟩
                go_wp2
                go_round
                case rel => exact ⟨j + 1, by omega, by go_num, by rw [hts.out, H.out]; exact hok⟩
                case measure => simp [intOf]; omega
          · obtain rfl : j = s.size := by omega
            go_wp2
            go_ret
            exact ⟨ret_bool (by rw [hf.out, everyB, H.out]), rfl⟩
    · have h24' : 24 < (s.size : Int) := by omega
      have hf : Hid (isIdent s = false) := Lib.hid (by simp [isIdent]; omega)
      go_enter Tryz.func53, Tryz.ntmps53
      go_wp2_with fail
      go_ret
      exact ⟨ret_bool (by rw [hf.out]), rfl⟩
  · have h0' : (s.size : Int) < 1 := by omega
    have hf : Hid (isIdent s = false) := Lib.hid (by simp [isIdent]; omega)
    go_enter Tryz.func53, Tryz.ntmps53
    go_wp2_with fail
    go_ret
    exact ⟨ret_bool (by rw [hf.out]), rfl⟩
set_option maxHeartbeats 400000 in
theorem c_IsTypeKeyword (s : ByteArray) (w : World) : Calls Tryz.prog 91 #[.string s] w fun e w' => e = .returned (.bool (isKw s)) ∧ w = w' := by
  go_enter Tryz.func91, Tryz.ntmps91
  go_wp2_with fail
  all_goals (go_ret; exact ⟨ret_bool (by simp_all [isKw, kwNames, Bool.or_assoc]), rfl⟩)
end Go.Proofs.YtdjldmpfginkdaaGreatDoor
namespace Go.Proofs.YtdjldmpfginkdaaGreatDoor
open Go.RowKit
attribute [local go_sem ↓] Go.wp_at_zero Go.wp_at_succ

set_option maxHeartbeats 400000 in
theorem c_tbinders (k : Int) (nm : ByteArray) (ix : Int) (u : Value) (i : Nat) (w : World) :
    Calls Tryz.prog 86 #[.agg #[.int .i64 k, .string nm, .int .i64 ix, u], .int .i64 i] w fun e w' => e = .returned (.int .i64 (bindI k i)) ∧ Below w.heap.size w w' := by
  by_cases hk : k = 6
  · subst hk
    by_cases hi : i = 1
    · subst hi
      go_enter Tryz.func86, Tryz.ntmps86
      go_wp2
      go_ret
      exact ⟨rfl, (Below.refl _ _).alloc (Nat.le_refl _) _⟩
    · have h1 : ((i : Int) == 1) = false := by rw [beq_eq_false_iff_ne]; omega
      have hf : Hid (bindI 6 i = 0) := Lib.hid (by simp [bindI, hi])
      go_enter Tryz.func86, Tryz.ntmps86
      go_wp2
      go_ret
      exact ⟨ret_int (by rw [hf.out]), (Below.refl _ _).alloc (Nat.le_refl _) _⟩
  · have h1 : (k == 6) = false := by rw [beq_eq_false_iff_ne]; exact hk
    have hf : Hid (bindI k i = 0) := Lib.hid (by simp [bindI, hk])
    go_enter Tryz.func86, Tryz.ntmps86
    go_wp2
    go_ret
    exact ⟨ret_int (by rw [hf.out]), (Below.refl _ _).alloc (Nat.le_refl _) _⟩
set_option maxHeartbeats 400000 in
theorem c_rbinders (k : Int) (nm : ByteArray) (ix : Int) (u : Value) (i : Nat) (w : World) :
    Calls Tryz.prog 115 #[.agg #[.int .i64 k, .string nm, .int .i64 ix, u], .int .i64 i] w fun e w' => e = .returned (.int .i64 (bindI k i)) ∧ Below w.heap.size w w' := by
  by_cases hk : k = 6
  · subst hk
    by_cases hi : i = 1
    · subst hi
      go_enter Tryz.func115, Tryz.ntmps115
      go_wp2
      go_ret
      exact ⟨rfl, (Below.refl _ _).alloc (Nat.le_refl _) _⟩
    · have h1 : ((i : Int) == 1) = false := by rw [beq_eq_false_iff_ne]; omega
      have hf : Hid (bindI 6 i = 0) := Lib.hid (by simp [bindI, hi])
      go_enter Tryz.func115, Tryz.ntmps115
      go_wp2
      go_ret
      exact ⟨ret_int (by rw [hf.out]), (Below.refl _ _).alloc (Nat.le_refl _) _⟩
  · have h1 : (k == 6) = false := by rw [beq_eq_false_iff_ne]; exact hk
    have hf : Hid (bindI k i = 0) := Lib.hid (by simp [bindI, hk])
    go_enter Tryz.func115, Tryz.ntmps115
    go_wp2
    go_ret
    exact ⟨ret_int (by rw [hf.out]), (Below.refl _ _).alloc (Nat.le_refl _) _⟩

theorem Ty.closed_var {t : Ty} {d : Int} (h : t.kind = 5) (h2 : d ≤ t.index) : t.closed d = false := by
  rw [Ty.closed_eq]; simp [h, h2]
theorem Ty.closed_non {t : Ty} {d : Int} (h : ¬ (t.kind = 5 ∧ d ≤ t.index)) : t.closed d = Ty.closeds t.kind t.args 0 d := by
  rw [Ty.closed_eq]
  have : (t.kind == 5 && decide (d ≤ t.index)) = false := by
    rw [Bool.eq_false_iff]; intro e; simp at e; exact h e
  simp [this]
theorem Ty.closeds_false {k : Int} {ts : List Ty} {d : Int} (j : Nat) (hj : j < ts.length) (h : ts[j].closed (d + bindI k j) = false) : Ty.closeds k ts 0 d = false := by
  rw [Bool.eq_false_iff]
  intro e
  have := (Ty.closeds_iff k ts 0 d).1 e j hj
  rw [Nat.zero_add, h] at this
  cases this

set_option maxHeartbeats 1000000 in
theorem c_closed (N : Nat) : ∀ (t : Ty) (d : Int) (w : World) (L B : Nat) (v : Value), t.size ≤ N → IsTy w L B t v → B ≤ w.heap.size → t.ok → t.size ≤ 2 ^ 40 → 0 ≤ d → d + t.size ≤ 2 ^ 50 →
    Calls Tryz.prog 108 #[v, .int .i64 d] w fun e w' => e = .returned (.bool (t.closed d)) ∧ Below w.heap.size w w' := by
  induction N with
  | zero => intro t d w L B v h; have := t.size_pos; omega
  | succ N ih =>
  intro t d w L B v hN ht0 hB hok hM hd0 hd
  obtain ⟨A, c, rfl, hv⟩ := ht0.args_
  clear ht0
  rw [Ty.size_eq] at hN hM hd
  rw [Ty.ok_eq] at hok
  obtain ⟨hok1, hok2, hok3⟩ := hok
  unfold inI at hok1 hok2
  have hl := Ty.len_le t.args
  by_cases hvar : t.kind = 5 ∧ d ≤ t.index
  · obtain ⟨h5, hle⟩ := hvar
    have hf := Lib.hid (Ty.closed_var h5 hle)
    have h5' : (t.kind == 5) = true := by rw [h5]; rfl
    clear h5
    generalize t.kind = k at *
    go_enter Tryz.func108, Tryz.ntmps108
    go_wp2
    go_ret
    exact ⟨ret_bool (by rw [hf.out]), (Below.refl _ _).alloc (Nat.le_refl _) _⟩
  have hcl := Lib.hid (Ty.closed_non hvar)
  generalize t.closed d = result at *
  generalize ek : t.kind = k, en : t.name = nm, ei : t.index = ix, ea : t.args = args at *
  clear ek en ei ea
  have HV := Lib.hid hv; clear hv
  have IH := Lib.hid ih; clear ih
  have HO := Lib.hid hok3; clear hok3
  generalize hn : args.length = n at *
  have Hn := Lib.hid hn; clear hn
  have hway : (k == 5) = false ∨ ((k == 5) = true ∧ ¬ d ≤ ix) := by
    by_cases h : k = 5
    · exact .inr ⟨by rw [h]; rfl, fun e => hvar ⟨h, e⟩⟩
    · exact .inl (by rw [beq_eq_false_iff_ne]; exact h)
  clear hvar
  rcases hway with hk5 | ⟨hk5, hix⟩
  all_goals
    go_enter Tryz.func108, Tryz.ntmps108
    go_wp2
    go_loopw [19] (fun i wr => ∃ j : Nat, j ≤ n ∧ i = .int .i64 j ∧ Hid (∀ (i : Nat) (hi : i < args.length), i < j → args[i].closed (d + bindI k i) = true) ∧
      wr.cell? ⟨w.heap.size, 0, none⟩ = some (.int .i64 k) ∧ wr.cell? ⟨w.heap.size, 1, none⟩ = some (.string nm) ∧ wr.cell? ⟨w.heap.size, 2, none⟩ = some (.int .i64 ix) ∧ wr.cell? ⟨w.heap.size, 3, none⟩ = some (.slice A n c) ∧ Below w.heap.size w wr ∧ w.heap.size < wr.heap.size) (fun i _ => n - (intOf i).toNat)
    case atStart => exact ⟨0, by omega, rfl, Lib.hid (fun _ _ h => by omega), by simp, by simp, by simp, by simp, by exact (Below.refl _ _).alloc (Nat.le_refl _) _, by simp⟩
    case round =>
      obtain ⟨j, hj, rfl, hall, b0, b1, b2, b3, hb, hlt⟩ := hrel
      by_cases hjn : j < n
      · obtain ⟨g, o, A', c', hj', rfl, hg1, hg2, c0, c1, c2, c3, ht⟩ := HV.out.at_ (KeepIn.of_below hb hB) hjn
        have hg := Ty.size_get j hj'
        have hoj := Lib.hid (Ty.ok_get HO.out j hj')
        have HT := Lib.hid ht
        clear ht
        have hfalse : Hid (args[j].closed (d + bindI k j) = false → Ty.closeds k args 0 d = false) := Lib.hid (Ty.closeds_false j hj')
        have htrue : Hid (args[j].closed (d + bindI k j) = true → ∀ (i : Nat) (hi : i < args.length), i < j + 1 → args[i].closed (d + bindI k i) = true) := Lib.hid (fun h i hi hij => by
          rcases Nat.lt_or_ge i j with h1 | h1
          · exact hall.out i hi h1
          · obtain rfl : i = j := by omega
            exact h)
        generalize args[j] = tj at *
        have hbi := bindI_le k j
        have HW : Hid (IntKind.i64.wrap (d + bindI k j) = d + bindI k j) := Lib.hid (IntWalk.i64_in _ (by omega))
        have hx := fun (W : World) (hW : W = wr.alloc (.cells #[.int .i64 tj.kind, .string tj.name, .int .i64 tj.index, .slice A' tj.args.length c'] 33)) =>
          (show W.cell? ⟨wr.heap.size, 0, none⟩ = some (.int .i64 tj.kind) ∧ W.cell? ⟨wr.heap.size, 1, none⟩ = some (.string tj.name) ∧ W.cell? ⟨wr.heap.size, 2, none⟩ = some (.int .i64 tj.index) ∧ W.cell? ⟨wr.heap.size, 3, none⟩ = some (.slice A' tj.args.length c') ∧ W.cell? ⟨w.heap.size, 0, none⟩ = some (.int .i64 k) ∧ W.cell? ⟨w.heap.size, 1, none⟩ = some (.string nm) ∧ W.cell? ⟨w.heap.size, 2, none⟩ = some (.int .i64 ix) ∧ W.cell? ⟨w.heap.size, 3, none⟩ = some (.slice (some ⟨g, o, none⟩) n c) ∧ Below wr.heap.size wr W ∧ wr.heap.size < W.heap.size from by
            subst hW
            refine ⟨by simp, by simp, by simp, by simp, ?_, ?_, ?_, ?_, (Below.refl _ _).alloc (Nat.le_refl _) _, by simp⟩ <;> (rw [World.cell?_alloc_lt _ _ _ (by exact hlt)]; assumption))
        have HX := Lib.hid hx
        clear hx
        go_wp2
        generalize hW : wr.alloc _ = W
        obtain ⟨x0, x1, x2, x3, y0, y1, y2, y3, hbW, hltW⟩ := HX.out W hW.symm
        clear hW
        go_region_held3 (fun w' => w'.cell? ⟨wr.heap.size, 0, none⟩ = some (.int .i64 tj.kind) ∧ w'.cell? ⟨wr.heap.size, 1, none⟩ = some (.string tj.name) ∧ w'.cell? ⟨wr.heap.size, 2, none⟩ = some (.int .i64 tj.index) ∧ w'.cell? ⟨wr.heap.size, 3, none⟩ = some (.slice A' tj.args.length c') ∧ w'.cell? ⟨w.heap.size, 0, none⟩ = some (.int .i64 k) ∧ w'.cell? ⟨w.heap.size, 1, none⟩ = some (.string nm) ∧ w'.cell? ⟨w.heap.size, 2, none⟩ = some (.int .i64 ix) ∧ w'.cell? ⟨w.heap.size, 3, none⟩ = some (.slice (some ⟨g, o, none⟩) n c)) (first | go_keep | (go_split_ands; refine ⟨?_, ?_, ?_, ?_, ?_, ?_, ?_, ?_⟩ <;> (first | (rw [hb2.cell (by have := hb1.size; simp at this ⊢; omega)]; assumption) | (rw [hb1.cell (by simp; omega)]; assumption))))
          (first | (go_at_call 86; refine (c_tbinders _ _ _ _ _ _).mono ?_; rintro e w1 ⟨rfl, hb1⟩) | (go_at_call 108; rw [HW.out]; refine (IH.out tj _ _ L B _ (by omega) (HT.out.below (hbW.trans ((Below.refl _ _).drew.trans (hb1.mono (by simp; omega)))) (by omega)) (by have := hb1.size; simp at this; omega) hoj.out (by omega) (by omega) (by omega)).mono ?_; rintro e w2 ⟨rfl, hb2⟩))
        have hs1 := hb1.size
        have hs2 := hb2.size
        simp only [heap_drew] at hs1 hb1
        have hbz : Below wr.heap.size wr w2 := hbW.trans ((Below.refl _ _).drew.trans ((hb1.mono (by go_size)).trans (hb2.mono (by omega))))
        clear hb1 hb2 hbW x0 x1 x2 x3 y0 y1 y2 y3
        cases hres : tj.closed (d + bindI k j)
        · have hz := Lib.hid (hfalse.out hres)
          go_wp2
          go_ret
          exact ⟨ret_bool (by rw [hcl.out, hz.out]), hb.trans (hbz.mono (by omega))⟩
        · have hz := Lib.hid (htrue.out hres)
          go_wp2
          go_roundw
          case rel => exact ⟨j + 1, by omega, by go_num, hz, by rw [hbz.cell (by exact hlt)]; exact b0, by rw [hbz.cell (by exact hlt)]; exact b1, by rw [hbz.cell (by exact hlt)]; exact b2, by rw [hbz.cell (by exact hlt)]; exact b3, hb.trans (hbz.mono (by omega)), by have := hbz.size; omega⟩
          case measure => simp [intOf]; omega
      · obtain rfl : j = n := by omega
        have hz : Hid (Ty.closeds k args 0 d = true) := Lib.hid ((Ty.closeds_iff k args 0 d).2 fun i hi => by rw [Nat.zero_add]; exact hall.out i hi (by rw [← Hn.out]; exact hi))
        go_wp2
        go_ret
        exact ⟨ret_bool (by rw [hcl.out, hz.out]), hb⟩
end Go.Proofs.YtdjldmpfginkdaaGreatDoor
namespace Go.Proofs.YtdjldmpfginkdaaGreatDoor
open Go.RowKit
attribute [local go_sem ↓] Go.wp_at_zero Go.wp_at_succ

mutual
theorem Ty.fvs_len : ∀ (t : Ty) (d : Int), (t.fvs d).length ≤ t.size
  | ⟨k, _, ix, args⟩, d => by
    have := Ty.fvss_len k args 0 d
    rw [Ty.fvs, Ty.size, List.length_append]
    split <;> simp <;> omega
theorem Ty.fvss_len (k : Int) : ∀ (ts : List Ty) (i : Nat) (d : Int), (Ty.fvss k ts i d).length ≤ Ty.sizes ts
  | [], _, _ => by simp [Ty.fvss]
  | t :: ts, i, d => by
    rw [Ty.fvss, Ty.sizes, List.length_append]
    have := Ty.fvs_len t (d + bindI k i)
    have := Ty.fvss_len k ts (i + 1) d
    omega
 end

def fvHead (k ix d : Int) : List Int := if k = 5 ∧ d ≤ ix then [ix - d] else []

set_option maxHeartbeats 2000000 in
theorem c_freeVars (N : Nat) : ∀ (t : Ty) (d : Int) (l : List Int) (w : World) (L B : Nat) (v vl : Value), t.size ≤ N → IsTy w L B t v → B ≤ w.heap.size → t.ok → 0 ≤ d → d + t.size ≤ 2 ^ 50 → IsInts w w.heap.size l vl → l.length + t.size ≤ 2 ^ 30 →
    Calls Tryz.prog 93 #[v, .int .i64 d, vl] w (RetInts (insAll l (t.fvs d)) w) := by
  induction N with
  | zero => intro t d l w L B v vl h; have := t.size_pos; omega
  | succ N ih =>
  intro t d l w L B v vl hN ht0 hB hok hd0 hd hl0 hM
  obtain ⟨A, c, rfl, hv⟩ := ht0.args_
  clear ht0
  rw [Ty.size_eq] at hN hM hd
  rw [Ty.ok_eq] at hok
  rw [Ty.fvs_eq]
  obtain ⟨hok1, hok2, hok3⟩ := hok
  unfold inI at hok1 hok2
  have hl := Ty.len_le t.args
  rw [show (if t.kind = 5 ∧ d ≤ t.index then [t.index - d] else []) = fvHead t.kind t.index d from rfl, insAll_append]
  have hfh : Hid (t.kind = 5 ∧ d ≤ t.index → fvHead t.kind t.index d = [t.index - d]) := Lib.hid (fun h => by simp [fvHead, h])
  have hfn : Hid (¬ (t.kind = 5 ∧ d ≤ t.index) → fvHead t.kind t.index d = []) := Lib.hid (fun h => by simp only [fvHead]; rw [if_neg h])
  have hfl : (fvHead t.kind t.index d).length ≤ 1 := by unfold fvHead; split <;> simp
  generalize fvHead t.kind t.index d = fh at *
  generalize t.kind = k, t.name = nm, t.index = ix, t.args = args at *
  have HV := Lib.hid hv; clear hv
  have IH := Lib.hid ih; clear ih
  have HO := Lib.hid hok3; clear hok3
  have HL := Lib.hid hl0; clear hl0
  generalize hn : args.length = n at *
  have Hn := Lib.hid hn; clear hn
  have hway : (k == 5) = false ∨ ((k == 5) = true ∧ ¬ d ≤ ix) ∨ ((k == 5) = true ∧ d ≤ ix) := by
    by_cases h : k = 5
    · by_cases h2 : d ≤ ix
      · exact .inr (.inr ⟨by rw [h]; rfl, h2⟩)
      · exact .inr (.inl ⟨by rw [h]; rfl, h2⟩)
    · exact .inl (by rw [beq_eq_false_iff_ne]; exact h)
  have hfh1 : Hid ((k == 5) = true → d ≤ ix → fh = [ix - d]) := Lib.hid (fun h1 h2 => hfh.out ⟨by simpa using h1, h2⟩)
  have hfn1 : Hid ((k == 5) = false → fh = []) := Lib.hid (fun h1 => hfn.out (fun h => by simp at h1; exact h1 h.1))
  have hfn2 : Hid (¬ d ≤ ix → fh = []) := Lib.hid (fun h1 => hfn.out (fun h => h1 h.2))
  clear hfh hfn
  rcases hway with hk5 | ⟨hk5, hix⟩ | ⟨hk5, hix⟩
  · have HF := Lib.hid (hfn1.out hk5)
    go_enter Tryz.func93, Tryz.ntmps93
    go_wp2
    have hx : (w.alloc (.cells #[.int .i64 k, .string nm, .int .i64 ix, .slice A n c] 33)).cell? ⟨w.heap.size, 0, none⟩ = some (.int .i64 k) ∧ (w.alloc (.cells #[.int .i64 k, .string nm, .int .i64 ix, .slice A n c] 33)).cell? ⟨w.heap.size, 1, none⟩ = some (.string nm) ∧ (w.alloc (.cells #[.int .i64 k, .string nm, .int .i64 ix, .slice A n c] 33)).cell? ⟨w.heap.size, 2, none⟩ = some (.int .i64 ix) ∧ (w.alloc (.cells #[.int .i64 k, .string nm, .int .i64 ix, .slice A n c] 33)).cell? ⟨w.heap.size, 3, none⟩ = some (.slice A n c) ∧ Below w.heap.size w (w.alloc (.cells #[.int .i64 k, .string nm, .int .i64 ix, .slice A n c] 33)) ∧ w.heap.size < (w.alloc (.cells #[.int .i64 k, .string nm, .int .i64 ix, .slice A n c] 33)).heap.size ∧ Hid (IsInts (w.alloc (.cells #[.int .i64 k, .string nm, .int .i64 ix, .slice A n c] 33)) (w.alloc (.cells #[.int .i64 k, .string nm, .int .i64 ix, .slice A n c] 33)).heap.size (insAll l fh) (vl)) := ⟨by simp, by simp, by simp, by simp, (Below.refl _ _).alloc (Nat.le_refl _) _, by simp, by rw [HF.out]; exact (HL.out.below ((Below.refl _ _).alloc (Nat.le_refl _) _) (Nat.le_refl _)).more (by simp)⟩
    generalize w.alloc (.cells #[.int .i64 k, .string nm, .int .i64 ix, .slice A n c] 33) = W at *
    obtain ⟨b0, b1, b2, b3, hbW, hltW, HL1⟩ := hx
    go_loopw [2, 7] (fun s i wr => ∃ j : Nat, j ≤ n ∧ i = .int .i64 j ∧ Hid (IsInts wr wr.heap.size (insAll (insAll l fh) (Ty.fvss k (args.take j) 0 d)) s) ∧ wr.cell? ⟨w.heap.size, 0, none⟩ = some (.int .i64 k) ∧ wr.cell? ⟨w.heap.size, 1, none⟩ = some (.string nm) ∧ wr.cell? ⟨w.heap.size, 2, none⟩ = some (.int .i64 ix) ∧ wr.cell? ⟨w.heap.size, 3, none⟩ = some (.slice A n c) ∧ Below w.heap.size w wr ∧ w.heap.size < wr.heap.size) (fun _ i _ => n - (intOf i).toNat)
    case atStart => exact ⟨0, by omega, rfl, HL1, b0, b1, b2, b3, hbW, hltW⟩
    case round =>
      clear b0 b1 b2 b3 hbW hltW
      obtain ⟨j, hj, rfl, HS, b0, b1, b2, b3, hb, hlt⟩ := hrel
      by_cases hjn : j < n
      · obtain ⟨g, o, A', c', hj', rfl, hg1, hg2, c0, c1, c2, c3, ht⟩ := HV.out.at_ (KeepIn.of_below hb hB) hjn
        have hg := Ty.size_get j hj'
        have hoj := Lib.hid (Ty.ok_get HO.out j hj')
        have HT := Lib.hid ht
        clear ht
        have hbi := bindI_le k j
        have hlen : (insAll (insAll l fh) (Ty.fvss k (args.take j) 0 d)).length + args[j].size ≤ 2 ^ 30 := by
          have e1 := insAll_len (insAll l fh) (Ty.fvss k (args.take j) 0 d)
          have e2 := insAll_len l fh
          have e3 := Ty.fvss_len k (args.take j) 0 d
          have e4 := Ty.sizes_take j hj'
          have e5 := Ty.sizes_take_le args (j + 1)
          omega
        have htk : Hid (insAll (insAll l fh) (Ty.fvss k (args.take (j + 1)) 0 d) = insAll (insAll (insAll l fh) (Ty.fvss k (args.take j) 0 d)) (args[j].fvs (d + bindI k j))) := Lib.hid (by rw [Ty.fvss_take k args 0 d j hj', insAll_append, Nat.zero_add])
        generalize args[j] = tj at *
        generalize insAll (insAll l fh) (Ty.fvss k (args.take j) 0 d) = l2 at *
        have HW : Hid (IntKind.i64.wrap (d + bindI k j) = d + bindI k j) := Lib.hid (IntWalk.i64_in _ (by omega))
        have hj0 : (0 : Int) ≤ (j : Int) := by omega
        have hj1 : (j : Int) < (n : Int) := by omega
        go_wp2
        go_region_held3 (fun w' => w'.cell? ⟨w.heap.size, 0, none⟩ = some (.int .i64 k) ∧ w'.cell? ⟨w.heap.size, 1, none⟩ = some (.string nm) ∧ w'.cell? ⟨w.heap.size, 2, none⟩ = some (.int .i64 ix) ∧ w'.cell? ⟨w.heap.size, 3, none⟩ = some (.slice (some ⟨g, o, none⟩) n c) ∧ w'.cell? ⟨g, o + j * 4, none⟩ = some (.int .i64 tj.kind) ∧ w'.cell? ⟨g, o + j * 4 + 1, none⟩ = some (.string tj.name) ∧ w'.cell? ⟨g, o + j * 4 + 2, none⟩ = some (.int .i64 tj.index) ∧ w'.cell? ⟨g, o + j * 4 + 3, none⟩ = some (.slice A' tj.args.length c'))
          (first | go_keep | (go_split_ands; refine ⟨?_, ?_, ?_, ?_, ?_, ?_, ?_, ?_⟩ <;> (first | (rw [hb2.cell (by have := hb1.size; simp at this ⊢; omega)]; assumption) | (rw [hb1.cell (by simp; omega)]; assumption))))
          (first
            | (go_at_call 115; refine (c_rbinders _ _ _ _ _ _).mono ?_; rintro e w1 ⟨rfl, hb1⟩)
            | (go_at_call 93; rw [HW.out]; refine (IH.out tj _ l2 _ L B _ _ (by omega) (HT.out.below ((Below.refl _ _).drew.trans (hb1.mono (by go_size))) (by go_size)) (by have := hb1.size; simp at this; omega) hoj.out (by omega) (by omega) ((HS.out.below ((Below.refl _ _).drew.trans (hb1.mono (by go_size))) (Nat.le_refl _)).more (by have := hb1.size; simpa using this)) hlen).mono ?_; rintro e w2 ⟨vr, rfl, hvr, hb2⟩))
        have hs1 := hb1.size
        have hs2 := hb2.size
        simp only [heap_drew] at hs1 hb1
        have hbz : Below wr.heap.size wr w2 := (Below.refl _ _).drew.trans ((hb1.mono (by go_size)).trans (hb2.mono (by omega)))
        have HR := Lib.hid hvr
        clear hb1 hb2 hvr
        go_wp2
        go_roundw
        case rel => exact ⟨j + 1, by omega, by go_num, by rw [htk.out]; exact HR, by rw [hbz.cell (by exact hlt)]; exact b0, by rw [hbz.cell (by exact hlt)]; exact b1, by rw [hbz.cell (by exact hlt)]; exact b2, by rw [hbz.cell (by exact hlt)]; exact b3, hb.trans (hbz.mono (by omega)), by omega⟩
        case measure => simp [intOf]; omega
      · obtain rfl : j = n := by omega
        have e := Lib.hid (List.take_of_length_le (l := args) (i := j) (by rw [Hn.out]; exact Nat.le_refl _))
        rw [e.out] at HS
        go_wp2
        go_ret
        exact ⟨_, rfl, HS.out, hb⟩
  · have HF := Lib.hid (hfn2.out hix)
    go_enter Tryz.func93, Tryz.ntmps93
    go_wp2
    have hx : (w.alloc (.cells #[.int .i64 k, .string nm, .int .i64 ix, .slice A n c] 33)).cell? ⟨w.heap.size, 0, none⟩ = some (.int .i64 k) ∧ (w.alloc (.cells #[.int .i64 k, .string nm, .int .i64 ix, .slice A n c] 33)).cell? ⟨w.heap.size, 1, none⟩ = some (.string nm) ∧ (w.alloc (.cells #[.int .i64 k, .string nm, .int .i64 ix, .slice A n c] 33)).cell? ⟨w.heap.size, 2, none⟩ = some (.int .i64 ix) ∧ (w.alloc (.cells #[.int .i64 k, .string nm, .int .i64 ix, .slice A n c] 33)).cell? ⟨w.heap.size, 3, none⟩ = some (.slice A n c) ∧ Below w.heap.size w (w.alloc (.cells #[.int .i64 k, .string nm, .int .i64 ix, .slice A n c] 33)) ∧ w.heap.size < (w.alloc (.cells #[.int .i64 k, .string nm, .int .i64 ix, .slice A n c] 33)).heap.size ∧ Hid (IsInts (w.alloc (.cells #[.int .i64 k, .string nm, .int .i64 ix, .slice A n c] 33)) (w.alloc (.cells #[.int .i64 k, .string nm, .int .i64 ix, .slice A n c] 33)).heap.size (insAll l fh) (vl)) := ⟨by simp, by simp, by simp, by simp, (Below.refl _ _).alloc (Nat.le_refl _) _, by simp, by rw [HF.out]; exact (HL.out.below ((Below.refl _ _).alloc (Nat.le_refl _) _) (Nat.le_refl _)).more (by simp)⟩
    generalize w.alloc (.cells #[.int .i64 k, .string nm, .int .i64 ix, .slice A n c] 33) = W at *
    obtain ⟨b0, b1, b2, b3, hbW, hltW, HL1⟩ := hx
    go_loopw [2, 7] (fun s i wr => ∃ j : Nat, j ≤ n ∧ i = .int .i64 j ∧ Hid (IsInts wr wr.heap.size (insAll (insAll l fh) (Ty.fvss k (args.take j) 0 d)) s) ∧ wr.cell? ⟨w.heap.size, 0, none⟩ = some (.int .i64 k) ∧ wr.cell? ⟨w.heap.size, 1, none⟩ = some (.string nm) ∧ wr.cell? ⟨w.heap.size, 2, none⟩ = some (.int .i64 ix) ∧ wr.cell? ⟨w.heap.size, 3, none⟩ = some (.slice A n c) ∧ Below w.heap.size w wr ∧ w.heap.size < wr.heap.size) (fun _ i _ => n - (intOf i).toNat)
    case atStart => exact ⟨0, by omega, rfl, HL1, b0, b1, b2, b3, hbW, hltW⟩
    case round =>
      clear b0 b1 b2 b3 hbW hltW
      obtain ⟨j, hj, rfl, HS, b0, b1, b2, b3, hb, hlt⟩ := hrel
      by_cases hjn : j < n
      · obtain ⟨g, o, A', c', hj', rfl, hg1, hg2, c0, c1, c2, c3, ht⟩ := HV.out.at_ (KeepIn.of_below hb hB) hjn
        have hg := Ty.size_get j hj'
        have hoj := Lib.hid (Ty.ok_get HO.out j hj')
        have HT := Lib.hid ht
        clear ht
        have hbi := bindI_le k j
        have hlen : (insAll (insAll l fh) (Ty.fvss k (args.take j) 0 d)).length + args[j].size ≤ 2 ^ 30 := by
          have e1 := insAll_len (insAll l fh) (Ty.fvss k (args.take j) 0 d)
          have e2 := insAll_len l fh
          have e3 := Ty.fvss_len k (args.take j) 0 d
          have e4 := Ty.sizes_take j hj'
          have e5 := Ty.sizes_take_le args (j + 1)
          omega
        have htk : Hid (insAll (insAll l fh) (Ty.fvss k (args.take (j + 1)) 0 d) = insAll (insAll (insAll l fh) (Ty.fvss k (args.take j) 0 d)) (args[j].fvs (d + bindI k j))) := Lib.hid (by rw [Ty.fvss_take k args 0 d j hj', insAll_append, Nat.zero_add])
        generalize args[j] = tj at *
        generalize insAll (insAll l fh) (Ty.fvss k (args.take j) 0 d) = l2 at *
        have HW : Hid (IntKind.i64.wrap (d + bindI k j) = d + bindI k j) := Lib.hid (IntWalk.i64_in _ (by omega))
        have hj0 : (0 : Int) ≤ (j : Int) := by omega
        have hj1 : (j : Int) < (n : Int) := by omega
        go_wp2
        go_region_held3 (fun w' => w'.cell? ⟨w.heap.size, 0, none⟩ = some (.int .i64 k) ∧ w'.cell? ⟨w.heap.size, 1, none⟩ = some (.string nm) ∧ w'.cell? ⟨w.heap.size, 2, none⟩ = some (.int .i64 ix) ∧ w'.cell? ⟨w.heap.size, 3, none⟩ = some (.slice (some ⟨g, o, none⟩) n c) ∧ w'.cell? ⟨g, o + j * 4, none⟩ = some (.int .i64 tj.kind) ∧ w'.cell? ⟨g, o + j * 4 + 1, none⟩ = some (.string tj.name) ∧ w'.cell? ⟨g, o + j * 4 + 2, none⟩ = some (.int .i64 tj.index) ∧ w'.cell? ⟨g, o + j * 4 + 3, none⟩ = some (.slice A' tj.args.length c'))
          (first | go_keep | (go_split_ands; refine ⟨?_, ?_, ?_, ?_, ?_, ?_, ?_, ?_⟩ <;> (first | (rw [hb2.cell (by have := hb1.size; simp at this ⊢; omega)]; assumption) | (rw [hb1.cell (by simp; omega)]; assumption))))
          (first
            | (go_at_call 115; refine (c_rbinders _ _ _ _ _ _).mono ?_; rintro e w1 ⟨rfl, hb1⟩)
            | (go_at_call 93; rw [HW.out]; refine (IH.out tj _ l2 _ L B _ _ (by omega) (HT.out.below ((Below.refl _ _).drew.trans (hb1.mono (by go_size))) (by go_size)) (by have := hb1.size; simp at this; omega) hoj.out (by omega) (by omega) ((HS.out.below ((Below.refl _ _).drew.trans (hb1.mono (by go_size))) (Nat.le_refl _)).more (by have := hb1.size; simpa using this)) hlen).mono ?_; rintro e w2 ⟨vr, rfl, hvr, hb2⟩))
        have hs1 := hb1.size
        have hs2 := hb2.size
        simp only [heap_drew] at hs1 hb1
        have hbz : Below wr.heap.size wr w2 := (Below.refl _ _).drew.trans ((hb1.mono (by go_size)).trans (hb2.mono (by omega)))
        have HR := Lib.hid hvr
        clear hb1 hb2 hvr
        go_wp2
        go_roundw
        case rel => exact ⟨j + 1, by omega, by go_num, by rw [htk.out]; exact HR, by rw [hbz.cell (by exact hlt)]; exact b0, by rw [hbz.cell (by exact hlt)]; exact b1, by rw [hbz.cell (by exact hlt)]; exact b2, by rw [hbz.cell (by exact hlt)]; exact b3, hb.trans (hbz.mono (by omega)), by omega⟩
        case measure => simp [intOf]; omega
      · obtain rfl : j = n := by omega
        have e := Lib.hid (List.take_of_length_le (l := args) (i := j) (by rw [Hn.out]; exact Nat.le_refl _))
        rw [e.out] at HS
        go_wp2
        go_ret
        exact ⟨_, rfl, HS.out, hb⟩
  · have HF := Lib.hid (hfh1.out hk5 hix)
    have hsub : Hid (IntKind.i64.wrap (ix - d) = ix - d) := Lib.hid (IntWalk.i64_in _ (by omega))
    go_enter Tryz.func93, Tryz.ntmps93
    go_wp2_with fail
    refine (c_insertInt l (ix - d) vl _ w.heap.size (HL.out.below ((Below.refl _ _).alloc (Nat.le_refl _) _) (Nat.le_refl _)) (by simp) (by omega)).mono ?_
    rintro e w1 ⟨v1, rfl, hv1, hb1⟩
    have HV1 := Lib.hid hv1
    clear hv1
    have hs1 := hb1.size
    simp at hs1
    have hbb : Below w.heap.size w w1 := ((Below.refl _ _).alloc (Nat.le_refl _) _).trans (hb1.mono (by simp))
    have hq : w1.cell? ⟨w.heap.size, 0, none⟩ = some (.int .i64 k) ∧ w1.cell? ⟨w.heap.size, 1, none⟩ = some (.string nm) ∧ w1.cell? ⟨w.heap.size, 2, none⟩ = some (.int .i64 ix) ∧ w1.cell? ⟨w.heap.size, 3, none⟩ = some (.slice A n c) := by
      refine ⟨?_, ?_, ?_, ?_⟩ <;> (rw [hb1.cell (by simp)]; simp)
    have HQ := Lib.hid hq
    clear hb1 hq
    go_wp2
    have hx : (w1).cell? ⟨w.heap.size, 0, none⟩ = some (.int .i64 k) ∧ (w1).cell? ⟨w.heap.size, 1, none⟩ = some (.string nm) ∧ (w1).cell? ⟨w.heap.size, 2, none⟩ = some (.int .i64 ix) ∧ (w1).cell? ⟨w.heap.size, 3, none⟩ = some (.slice A n c) ∧ Below w.heap.size w (w1) ∧ w.heap.size < (w1).heap.size ∧ Hid (IsInts (w1) (w1).heap.size (insAll l fh) (v1)) := ⟨HQ.out.1, HQ.out.2.1, HQ.out.2.2.1, HQ.out.2.2.2, hbb, by omega, by rw [HF.out]; exact HV1⟩
    generalize w1 = W at *
    obtain ⟨b0, b1, b2, b3, hbW, hltW, HL1⟩ := hx
    go_loopw [2, 7] (fun s i wr => ∃ j : Nat, j ≤ n ∧ i = .int .i64 j ∧ Hid (IsInts wr wr.heap.size (insAll (insAll l fh) (Ty.fvss k (args.take j) 0 d)) s) ∧ wr.cell? ⟨w.heap.size, 0, none⟩ = some (.int .i64 k) ∧ wr.cell? ⟨w.heap.size, 1, none⟩ = some (.string nm) ∧ wr.cell? ⟨w.heap.size, 2, none⟩ = some (.int .i64 ix) ∧ wr.cell? ⟨w.heap.size, 3, none⟩ = some (.slice A n c) ∧ Below w.heap.size w wr ∧ w.heap.size < wr.heap.size) (fun _ i _ => n - (intOf i).toNat)
    case atStart => exact ⟨0, by omega, rfl, HL1, b0, b1, b2, b3, hbW, hltW⟩
    case round =>
      clear b0 b1 b2 b3 hbW hltW
      obtain ⟨j, hj, rfl, HS, b0, b1, b2, b3, hb, hlt⟩ := hrel
      by_cases hjn : j < n
      · obtain ⟨g, o, A', c', hj', rfl, hg1, hg2, c0, c1, c2, c3, ht⟩ := HV.out.at_ (KeepIn.of_below hb hB) hjn
        have hg := Ty.size_get j hj'
        have hoj := Lib.hid (Ty.ok_get HO.out j hj')
        have HT := Lib.hid ht
        clear ht
        have hbi := bindI_le k j
        have hlen : (insAll (insAll l fh) (Ty.fvss k (args.take j) 0 d)).length + args[j].size ≤ 2 ^ 30 := by
          have e1 := insAll_len (insAll l fh) (Ty.fvss k (args.take j) 0 d)
          have e2 := insAll_len l fh
          have e3 := Ty.fvss_len k (args.take j) 0 d
          have e4 := Ty.sizes_take j hj'
          have e5 := Ty.sizes_take_le args (j + 1)
          omega
        have htk : Hid (insAll (insAll l fh) (Ty.fvss k (args.take (j + 1)) 0 d) = insAll (insAll (insAll l fh) (Ty.fvss k (args.take j) 0 d)) (args[j].fvs (d + bindI k j))) := Lib.hid (by rw [Ty.fvss_take k args 0 d j hj', insAll_append, Nat.zero_add])
        generalize args[j] = tj at *
        generalize insAll (insAll l fh) (Ty.fvss k (args.take j) 0 d) = l2 at *
        have HW : Hid (IntKind.i64.wrap (d + bindI k j) = d + bindI k j) := Lib.hid (IntWalk.i64_in _ (by omega))
        have hj0 : (0 : Int) ≤ (j : Int) := by omega
        have hj1 : (j : Int) < (n : Int) := by omega
        go_wp2
        go_region_held3 (fun w' => w'.cell? ⟨w.heap.size, 0, none⟩ = some (.int .i64 k) ∧ w'.cell? ⟨w.heap.size, 1, none⟩ = some (.string nm) ∧ w'.cell? ⟨w.heap.size, 2, none⟩ = some (.int .i64 ix) ∧ w'.cell? ⟨w.heap.size, 3, none⟩ = some (.slice (some ⟨g, o, none⟩) n c) ∧ w'.cell? ⟨g, o + j * 4, none⟩ = some (.int .i64 tj.kind) ∧ w'.cell? ⟨g, o + j * 4 + 1, none⟩ = some (.string tj.name) ∧ w'.cell? ⟨g, o + j * 4 + 2, none⟩ = some (.int .i64 tj.index) ∧ w'.cell? ⟨g, o + j * 4 + 3, none⟩ = some (.slice A' tj.args.length c'))
          (first | go_keep | (go_split_ands; refine ⟨?_, ?_, ?_, ?_, ?_, ?_, ?_, ?_⟩ <;> (first | (rw [hb2.cell (by have := hb1.size; simp at this ⊢; omega)]; assumption) | (rw [hb1.cell (by simp; omega)]; assumption))))
          (first
            | (go_at_call 115; refine (c_rbinders _ _ _ _ _ _).mono ?_; rintro e w1 ⟨rfl, hb1⟩)
            | (go_at_call 93; rw [HW.out]; refine (IH.out tj _ l2 _ L B _ _ (by omega) (HT.out.below ((Below.refl _ _).drew.trans (hb1.mono (by go_size))) (by go_size)) (by have := hb1.size; simp at this; omega) hoj.out (by omega) (by omega) ((HS.out.below ((Below.refl _ _).drew.trans (hb1.mono (by go_size))) (Nat.le_refl _)).more (by have := hb1.size; simpa using this)) hlen).mono ?_; rintro e w2 ⟨vr, rfl, hvr, hb2⟩))
        have hs1 := hb1.size
        have hs2 := hb2.size
        simp only [heap_drew] at hs1 hb1
        have hbz : Below wr.heap.size wr w2 := (Below.refl _ _).drew.trans ((hb1.mono (by go_size)).trans (hb2.mono (by omega)))
        have HR := Lib.hid hvr
        clear hb1 hb2 hvr
        go_wp2
        go_roundw
        case rel => exact ⟨j + 1, by omega, by go_num, by rw [htk.out]; exact HR, by rw [hbz.cell (by exact hlt)]; exact b0, by rw [hbz.cell (by exact hlt)]; exact b1, by rw [hbz.cell (by exact hlt)]; exact b2, by rw [hbz.cell (by exact hlt)]; exact b3, hb.trans (hbz.mono (by omega)), by omega⟩
        case measure => simp [intOf]; omega
      · obtain rfl : j = n := by omega
        have e := Lib.hid (List.take_of_length_le (l := args) (i := j) (by rw [Hn.out]; exact Nat.le_refl _))
        rw [e.out] at HS
        go_wp2
        go_ret
        exact ⟨_, rfl, HS.out, hb⟩

theorem Ty.fvs_nil_iff (t : Ty) : (insAll [] (t.fvs 0)).length = 0 ↔ t.closed 0 = true := by
  rw [List.length_eq_zero_iff, insAll_nil, Ty.closed_fvs]

set_option maxHeartbeats 400000 in
theorem c_TermFreeVars (t : Ty) (w : World) (L B : Nat) (v : Value) (hv : IsTy w L B t v) (hB : B ≤ w.heap.size) (hok : t.ok) (hM : t.size ≤ 2 ^ 30) :
    Calls Tryz.prog 79 #[v] w (RetInts (insAll [] (t.fvs 0)) w) := by
  have HT := Lib.hid hv
  obtain ⟨A, c, rfl, _⟩ := hv.args_
  clear hv
  have HO := Lib.hid hok
  clear hok
  go_enter Tryz.func79, Tryz.ntmps79
  go_wp2_with fail
  refine (c_freeVars t.size t 0 [] _ L B _ _ (Nat.le_refl _) (HT.out.below ((Below.refl _ _).alloc (Nat.le_refl _) _) hB) (by go_size) HO.out (by omega) (by omega) (IsInts.nil _ _) (by simpa using hM)).mono ?_
  rintro e w1 ⟨v1, rfl, hv1, hb1⟩
  have HV := Lib.hid hv1
  clear hv1
  go_wp2
  go_ret
  exact ⟨_, rfl, HV.out, ((Below.refl _ _).alloc (Nat.le_refl _) _).trans (hb1.mono (by go_size))⟩

set_option maxHeartbeats 400000 in
theorem c_TermClosed (t : Ty) (w : World) (L B : Nat) (v : Value) (hv : IsTy w L B t v) (hB : B ≤ w.heap.size) (hok : t.ok) (hM : t.size ≤ 2 ^ 30) :
    Calls Tryz.prog 55 #[v] w fun e w' => e = .returned (.bool (t.closed 0)) ∧ Below w.heap.size w w' := by
  have HT := Lib.hid hv
  obtain ⟨A, c, rfl, _⟩ := hv.args_
  clear hv
  have HO := Lib.hid hok
  clear hok
  go_enter Tryz.func55, Tryz.ntmps55
  go_wp2_with fail
  refine (c_TermFreeVars t _ L B _ (HT.out.below ((Below.refl _ _).alloc (Nat.le_refl _) _) hB) (by go_size) HO.out hM).mono ?_
  rintro e w1 ⟨v1, rfl, ⟨A1, c1, rfl, _⟩, hb1⟩
  have hi := Lib.hid (Ty.fvs_nil_iff t)
  generalize (insAll [] (t.fvs 0)).length = m at *
  go_wp2
  go_ret
  refine ⟨ret_bool ?_, ((Below.refl _ _).alloc (Nat.le_refl _) _).trans (hb1.mono (by go_size))⟩
  rw [Bool.eq_iff_iff, ← hi.out]
  simp
  try omega

theorem Ty.plain_false {t : Ty} (h5 : (t.kind == 5) = false) (hc : t.closed 0 = false) : t.plain = (t.kind == 2 && Ty.plains t.args) := by
  rw [Ty.plain_eq, h5, hc]; simp
theorem Ty.plains_false {ts : List Ty} (j : Nat) (hj : j < ts.length) (h : ts[j].plain = false) : Ty.plains ts = false := by
  rw [Bool.eq_false_iff]
  intro e
  have := (Ty.plains_iff ts).1 e j hj
  rw [h] at this
  cases this

set_option maxHeartbeats 1000000 in
theorem c_TermPlain (N : Nat) : ∀ (t : Ty) (w : World) (L B : Nat) (v : Value), t.size ≤ N → IsTy w L B t v → B ≤ w.heap.size → t.ok → t.size ≤ 2 ^ 30 →
    Calls Tryz.prog 92 #[v] w fun e w' => e = .returned (.bool t.plain) ∧ Below w.heap.size w w' := by
  induction N with
  | zero => intro t w L B v h; have := t.size_pos; omega
  | succ N ih =>
  intro t w L B v hN ht0 hB hok hM
  have HT0 := Lib.hid ht0
  obtain ⟨A, c, rfl, hv⟩ := ht0.args_
  clear ht0
  have HO0 := Lib.hid hok
  rw [Ty.ok_eq] at hok
  obtain ⟨hok1, hok2, hok3⟩ := hok
  clear hok1 hok2
  have HV := Lib.hid hv; clear hv
  have IH := Lib.hid ih; clear ih
  have HO := Lib.hid hok3; clear hok3
  have hsz : Hid (t.size = 1 + Ty.sizes t.args) := Lib.hid (Ty.size_eq t)
  have hsz1 : 1 + Ty.sizes t.args ≤ N + 1 := by rw [← hsz.out]; exact hN
  have hsz2 : 1 + Ty.sizes t.args ≤ 2 ^ 30 := by rw [← hsz.out]; exact hM
  have hl := Ty.len_le t.args
  cases h5 : (t.kind == 5)
  rotate_left
  · have hf : Hid (t.plain = true) := Lib.hid (by rw [Ty.plain_eq, h5]; simp)
    go_enter Tryz.func92, Tryz.ntmps92
    go_wp2
    go_ret
    exact ⟨ret_bool (by rw [hf.out]), (Below.refl _ _).alloc (Nat.le_refl _) _⟩
  cases hcl : t.closed 0
  rotate_left
  · have hf : Hid (t.plain = true) := Lib.hid (by rw [Ty.plain_eq, hcl]; simp)
    go_enter Tryz.func92, Tryz.ntmps92
    go_wp2_with fail
    refine (c_TermClosed t _ L B _ (HT0.out.below ((Below.refl _ _).alloc (Nat.le_refl _) _) hB) (by go_size) HO0.out hM).mono ?_
    rintro e w1 ⟨rfl, hb1⟩
    go_wp2
    go_ret
    exact ⟨ret_bool (by rw [hf.out]), ((Below.refl _ _).alloc (Nat.le_refl _) _).trans (hb1.mono (by go_size))⟩
  have hf := Lib.hid (Ty.plain_false h5 hcl)
  go_enter Tryz.func92, Tryz.ntmps92
  go_wp2_with fail
  refine (c_TermClosed t _ L B _ (HT0.out.below ((Below.refl _ _).alloc (Nat.le_refl _) _) hB) (by go_size) HO0.out hM).mono ?_
  rintro e w1 ⟨rfl, hb1⟩
  have hs1 := hb1.size
  simp at hs1
  have hbb : Below w.heap.size w w1 := ((Below.refl _ _).alloc (Nat.le_refl _) _).trans (hb1.mono (by go_size))
  have q0 : w1.cell? ⟨w.heap.size, 0, none⟩ = some (.int .i64 t.kind) := by rw [hb1.cell (by simp)]; simp
  have q3 : w1.cell? ⟨w.heap.size, 3, none⟩ = some (.slice A t.args.length c) := by rw [hb1.cell (by simp)]; simp
  clear hb1 HT0 hN hM
  generalize t.kind = k, t.name = nm, t.index = ix, t.args = args at *
  generalize hn : args.length = n at *
  have Hn := Lib.hid hn; clear hn
  go_wp2
  go_loopw [3] (fun i wr => ∃ j : Nat, j ≤ n ∧ i = .int .i64 j ∧ Hid (∀ (i : Nat) (hi : i < args.length), i < j → args[i].plain = true) ∧
    wr.cell? ⟨w.heap.size, 0, none⟩ = some (.int .i64 k) ∧ wr.cell? ⟨w.heap.size, 3, none⟩ = some (.slice A n c) ∧ Below w.heap.size w wr ∧ w.heap.size < wr.heap.size) (fun i _ => n - (intOf i).toNat)
  case atStart => exact ⟨0, by omega, rfl, Lib.hid (fun _ _ h => by omega), q0, q3, hbb, by omega⟩
  case round =>
    clear q0 q3 hbb
    obtain ⟨j, hj, rfl, hall, b0, b3, hb, hlt⟩ := hrel
    by_cases hjn : j < n
    · obtain ⟨g, o, A', c', hj', rfl, hg1, hg2, c0, c1, c2, c3, ht⟩ := HV.out.at_ (KeepIn.of_below hb hB) hjn
      have hg := Ty.size_get j hj'
      have hoj := Lib.hid (Ty.ok_get HO.out j hj')
      have HT := Lib.hid ht
      clear ht
      have hfalse : Hid (args[j].plain = false → Ty.plains args = false) := Lib.hid (Ty.plains_false j hj')
      have htrue : Hid (args[j].plain = true → ∀ (i : Nat) (hi : i < args.length), i < j + 1 → args[i].plain = true) := Lib.hid (fun h i hi hij => by
        rcases Nat.lt_or_ge i j with h1 | h1
        · exact hall.out i hi h1
        · obtain rfl : i = j := by omega
          exact h)
      generalize args[j] = tj at *
      go_wp2_with fail
      refine (IH.out tj _ L B _ (by omega) HT.out (by omega) hoj.out (by omega)).mono ?_
      rintro e w2 ⟨rfl, hb2⟩
      cases hres : tj.plain
      · have hz := Lib.hid (hfalse.out hres)
        go_wp2
        go_ret
        exact ⟨ret_bool (by rw [hf.out, hz.out]; simp), hb.trans (hb2.mono (by omega))⟩
      · have hz := Lib.hid (htrue.out hres)
        go_wp2
        go_roundw
        case rel => exact ⟨j + 1, by omega, by go_num, hz, by rw [hb2.cell (by exact hlt)]; exact b0, by rw [hb2.cell (by exact hlt)]; exact b3, hb.trans (hb2.mono (by omega)), by have := hb2.size; omega⟩
        case measure => simp [intOf]; omega
    · obtain rfl : j = n := by omega
      have hz : Hid (Ty.plains args = true) := Lib.hid ((Ty.plains_iff args).2 fun i hi => hall.out i hi (by rw [← Hn.out]; exact hi))
      go_wp2
      go_ret
      exact ⟨ret_bool (by rw [hf.out, hz.out]; simp), hb⟩
end Go.Proofs.YtdjldmpfginkdaaGreatDoor
namespace Go.Proofs.YtdjldmpfginkdaaGreatDoor
open Go.RowKit

/-- The index of the first element that satisfies p, or -1. -/
def idxP {α : Type} (p : α → Bool) (ts : List α) : Int := match ts.findIdx? p with
  | some i => (i : Int)
  | none => -1
theorem idxP_none {α : Type} (p : α → Bool) (ts : List α) (h : ∀ (i : Nat) (hi : i < ts.length), p ts[i] = false) : idxP p ts = -1 := by
  have : ts.findIdx? p = none := by
    rw [List.findIdx?_eq_none_iff]
    intro x hx
    obtain ⟨i, hi, rfl⟩ := List.getElem_of_mem hx
    exact h i hi
  simp [idxP, this]
theorem idxP_some {α : Type} (p : α → Bool) (ts : List α) (j : Nat) (hj : j < ts.length) (h : ∀ (i : Nat) (hi : i < ts.length), i < j → p ts[i] = false) (hp : p ts[j] = true) : idxP p ts = j := by
  have : ts.findIdx? p = some j := by
    rw [List.findIdx?_eq_some_iff_getElem]
    exact ⟨hj, by simpa using hp, fun i hi => by simpa using h i (by omega) hi⟩
  simp [idxP, this]
theorem idxP_any {α : Type} (p : α → Bool) (ts : List α) : (0 ≤ idxP p ts) ↔ ts.any p = true := by
  cases h : ts.findIdx? p with
  | none =>
    have h1 : idxP p ts = -1 := by simp [idxP, h]
    rw [List.findIdx?_eq_none_iff] at h
    rw [h1]
    constructor
    · intro h; omega
    · intro h2
      rw [List.any_eq_true] at h2
      obtain ⟨x, hx, hp⟩ := h2
      rw [h x hx] at hp
      cases hp
  | some i =>
    have h1 : idxP p ts = i := by simp [idxP, h]
    rw [List.findIdx?_eq_some_iff_getElem] at h
    obtain ⟨hi, hp, _⟩ := h
    rw [h1]
    constructor
    · intro _
      rw [List.any_eq_true]
      exact ⟨ts[i], List.getElem_mem hi, by simpa using hp⟩
    · intro _; omega

/-- F is a function with a body. -/
def EntersF (F : FuncId) : Prop := ∀ (args : Array Value) (w : World), (callFunc F args).run Tryz.prog w = .ok (.enter F args) w
/-- The function value F, with what it has captured, computes p on the terms ts, in every world that has grown out of w. -/
def PredTy (F : FuncId) (caps : Array Value) (p : Ty → Bool) (ts : List Ty) (w : World) (L B : Nat) : Prop :=
  ∀ (j : Nat) (hj : j < ts.length) (W : World) (v : Value), Below w.heap.size w W → IsTy W L B ts[j] v → Calls Tryz.prog F (#[v] ++ caps) W fun e w' => e = .returned (.bool (p ts[j])) ∧ Below W.heap.size W w'

set_option maxHeartbeats 1000000 in
theorem c_IndexFunc (F : FuncId) (caps : Array Value) (p : Ty → Bool) (ts : List Ty) (v : Value) (w : World) (L B : Nat) (hv : IsTyl w L B ts v) (hB : B ≤ w.heap.size) (hn : ts.length ≤ 2 ^ 40) (hF : EntersF F) (hf : PredTy F caps p ts w L B) :
    Calls Tryz.prog 109 #[v, .func (.func F) #[] caps] w fun e w' => e = .returned (.int .i64 (idxP p ts)) ∧ Below w.heap.size w w' := by
  obtain ⟨A, c, rfl⟩ : ∃ A c, v = .slice A ts.length c := by obtain ⟨A, c, h, _⟩ := hv; exact ⟨A, c, h⟩
  have HV := Lib.hid hv; clear hv
  have HF := Lib.hid hf; clear hf
  unfold EntersF at hF
  generalize hl : ts.length = n at *
  have Hn := Lib.hid hl; clear hl
  go_enter Tryz.func109, Tryz.ntmps109
  go_wp2
  go_loopw [8] (fun i wr => ∃ j : Nat, j ≤ n ∧ i = .int .i64 j ∧ Hid (∀ (i : Nat) (hi : i < ts.length), i < j → p ts[i] = false) ∧ Below w.heap.size w wr) (fun i _ => n - (intOf i).toNat)
  case atStart => exact ⟨0, by omega, rfl, Lib.hid (fun _ _ h => by omega), Below.refl _ _⟩
  case round =>
    obtain ⟨j, hj, rfl, hall, hb⟩ := hrel
    by_cases hjn : j < n
    · obtain ⟨g, o, A', c', hj', rfl, hg1, hg2, c0, c1, c2, c3, ht⟩ := HV.out.at_ (KeepIn.of_below hb hB) hjn
      have HC := Lib.hid (HF.out j hj' wr _ hb ht)
      have hfalse : Hid (p ts[j] = true → idxP p ts = j) := Lib.hid (idxP_some p ts j hj' hall.out)
      have htrue : Hid (p ts[j] = false → ∀ (i : Nat) (hi : i < ts.length), i < j + 1 → p ts[i] = false) := Lib.hid (fun h i hi hij => by
        rcases Nat.lt_or_ge i j with h1 | h1
        · exact hall.out i hi h1
        · obtain rfl : i = j := by omega
          exact h)
      generalize p ts[j] = r at *
      generalize ts[j] = tj at *
      clear ht
      have hs := hb.size
      go_wp2_with fail
      refine HC.out.mono ?_
      rintro e w2 ⟨rfl, hb2⟩
      cases r
      · have hz := Lib.hid (htrue.out rfl)
        go_wp2
        go_roundw
        case rel => exact ⟨j + 1, by omega, by go_num, hz, hb.trans (hb2.mono (by omega))⟩
        case measure => simp [intOf]; omega
      · have hz := Lib.hid (hfalse.out rfl)
        go_wp2
        go_ret
        exact ⟨ret_int (by rw [hz.out]), hb.trans (hb2.mono (by omega))⟩
    · obtain rfl : j = n := by omega
      have hz : Hid (idxP p ts = -1) := Lib.hid (idxP_none p ts fun i hi => hall.out i hi (by rw [← Hn.out]; exact hi))
      go_wp2
      go_ret
      exact ⟨ret_int (by rw [hz.out]), hb⟩

set_option maxHeartbeats 400000 in
theorem c_ContainsFunc (F : FuncId) (caps : Array Value) (p : Ty → Bool) (ts : List Ty) (v : Value) (w : World) (L B : Nat) (hv : IsTyl w L B ts v) (hB : B ≤ w.heap.size) (hn : ts.length ≤ 2 ^ 40) (hF : EntersF F) (hf : PredTy F caps p ts w L B) :
    Calls Tryz.prog 83 #[v, .func (.func F) #[] caps] w fun e w' => e = .returned (.bool (ts.any p)) ∧ Below w.heap.size w w' := by
  have HC := Lib.hid (c_IndexFunc F caps p ts v w L B hv hB hn hF hf)
  clear hF
  have hi := Lib.hid (idxP_any p ts)
  obtain ⟨A, c, rfl⟩ : ∃ A c, v = .slice A ts.length c := by obtain ⟨A, c, h, _⟩ := hv; exact ⟨A, c, h⟩
  clear hv hf
  generalize idxP p ts = ix at *
  have hpost : Hid (∀ b : Bool, (b = true ↔ 0 ≤ ix) → b = ts.any p) := Lib.hid (fun b hb => by rw [Bool.eq_iff_iff, hb, hi.out])
  generalize ts.any p = res at *
  clear hi
  go_enter Tryz.func83, Tryz.ntmps83
  go_wp2_with fail
  refine HC.out.mono ?_
  rintro e w2 ⟨rfl, hb2⟩
  go_wp2
  go_ret
  exact ⟨ret_bool (hpost.out _ (by simp)), hb2⟩
end Go.Proofs.YtdjldmpfginkdaaGreatDoor
namespace Go.Proofs.YtdjldmpfginkdaaGreatDoor
open Go.RowKit

/-- What IsPlain is to do on one term. -/
def PlainAt (t : Ty) (L B : Nat) : Prop := ∀ (W : World) (v : Value), IsTy W L B t v → B ≤ W.heap.size → Calls Tryz.prog 127 #[v] W fun e w' => e = .returned (.bool t.plain) ∧ Below W.heap.size W w'

set_option maxHeartbeats 400000 in
theorem c_plainArgs1 (t : Ty) (L B : Nat) (h : PlainAt t L B) (w : World) (v : Value) (hv : IsTy w L B t v) (hB : B ≤ w.heap.size) :
    Calls Tryz.prog 126 #[v] w fun e w' => e = .returned (.bool (!t.plain)) ∧ Below w.heap.size w w' := by
  have HT := Lib.hid hv
  obtain ⟨A, c, rfl, _⟩ := hv.args_
  clear hv
  have HH := Lib.hid h; clear h
  go_enter Tryz.func126, Tryz.ntmps126
  go_wp2_with fail
  refine (HH.out _ _ (HT.out.below ((Below.refl _ _).alloc (Nat.le_refl _) _) hB) (by go_size)).mono ?_
  rintro e w1 ⟨rfl, hb1⟩
  go_wp2
  go_ret
  exact ⟨rfl, ((Below.refl _ _).alloc (Nat.le_refl _) _).trans (hb1.mono (by go_size))⟩
theorem plains_any (ts : List Ty) : (!(ts.any fun t => !t.plain)) = Ty.plains ts := by
  rw [Bool.eq_iff_iff, Ty.plains_iff]
  simp only [Bool.not_eq_true', List.any_eq_false]
  constructor
  · intro h j hj
    have := h ts[j] (List.getElem_mem hj)
    simpa using this
  · intro h x hx
    obtain ⟨j, hj, rfl⟩ := List.getElem_of_mem hx
    simpa using h j hj
set_option maxHeartbeats 400000 in
theorem c_plainArgs (t : Ty) (w : World) (L B : Nat) (v : Value) (hv : IsTy w L B t v) (hB : B ≤ w.heap.size) (hM : t.size ≤ 2 ^ 40) (h : ∀ (j : Nat) (hj : j < t.args.length), PlainAt t.args[j] L B) :
    Calls Tryz.prog 107 #[v] w fun e w' => e = .returned (.bool (Ty.plains t.args)) ∧ Below w.heap.size w w' := by
  obtain ⟨A, c, rfl, hl⟩ := hv.args_
  have hsz := Ty.size_eq t
  have hle := Ty.len_le t.args
  have HC := Lib.hid (fun (W : World) (hW : Below w.heap.size w W) => c_ContainsFunc 126 #[] (fun t => !t.plain) t.args _ W L B (hl.keep (KeepIn.of_below hW hB) (Nat.le_refl _) (Nat.le_refl _)) (Nat.le_trans hB hW.size) (by omega) Tryz.call126
    (fun j hj W' v' hW' hv' => c_plainArgs1 _ L B (h j hj) W' v' hv' (Nat.le_trans hB (Nat.le_trans hW.size hW'.size))))
  have hp := Lib.hid (plains_any t.args)
  clear hl h hv hle hsz
  generalize t.args.length = n at *
  go_enter Tryz.func107, Tryz.ntmps107
  go_wp2_with fail
  refine (HC.out _ ((Below.refl _ _).alloc (Nat.le_refl _) _)).mono ?_
  rintro e w1 ⟨rfl, hb1⟩
  generalize (t.args.any fun t => !t.plain) = r at *
  go_wp2
  go_ret
  exact ⟨ret_bool hp.out, ((Below.refl _ _).alloc (Nat.le_refl _) _).trans (hb1.mono (by go_size))⟩

set_option maxHeartbeats 1000000 in
theorem c_IsPlain (N : Nat) : ∀ (t : Ty) (L B : Nat), t.size ≤ N → t.ok → t.size ≤ 2 ^ 30 → PlainAt t L B := by
  induction N with
  | zero => intro t L B h; have := t.size_pos; omega
  | succ N ih =>
  intro t L B hN hok hM w v ht0 hB
  have HT0 := Lib.hid ht0
  obtain ⟨A, c, rfl, hv⟩ := ht0.args_
  clear ht0 hv
  have HO0 := Lib.hid hok
  rw [Ty.ok_eq] at hok
  have hsz := Ty.size_eq t
  have HC := Lib.hid (fun (W : World) (hW : Below w.heap.size w W) => c_plainArgs t W L B _ (HT0.out.below hW hB) (Nat.le_trans hB hW.size) (by omega) (fun j hj => by
    have hg := Ty.size_get j hj
    exact ih _ L B (by omega) (Ty.ok_get hok.2.2 j hj) (by omega)))
  clear hok ih hsz
  cases h5 : (t.kind == 5)
  rotate_left
  · have hf : Hid (t.plain = true) := Lib.hid (by rw [Ty.plain_eq, h5]; simp)
    go_enter Tryz.func127, Tryz.ntmps127
    go_wp2
    go_ret
    exact ⟨ret_bool (by rw [hf.out]), (Below.refl _ _).alloc (Nat.le_refl _) _⟩
  cases hcl : t.closed 0
  rotate_left
  · have hf : Hid (t.plain = true) := Lib.hid (by rw [Ty.plain_eq, hcl]; simp)
    go_enter Tryz.func127, Tryz.ntmps127
    go_wp2_with fail
    refine (c_closed t.size t 0 _ L B _ (Nat.le_refl _) (HT0.out.below ((Below.refl _ _).alloc (Nat.le_refl _) _) hB) (by go_size) HO0.out (by omega) (by omega) (by omega)).mono ?_
    rintro e w1 ⟨rfl, hb1⟩
    go_wp2
    go_ret
    exact ⟨ret_bool (by rw [hf.out]), ((Below.refl _ _).alloc (Nat.le_refl _) _).trans (hb1.mono (by go_size))⟩
  have hf := Lib.hid (Ty.plain_false h5 hcl)
  cases h2 : (t.kind == 2)
  · go_enter Tryz.func127, Tryz.ntmps127
    go_wp2_with fail
    refine (c_closed t.size t 0 _ L B _ (Nat.le_refl _) (HT0.out.below ((Below.refl _ _).alloc (Nat.le_refl _) _) hB) (by go_size) HO0.out (by omega) (by omega) (by omega)).mono ?_
    rintro e w1 ⟨rfl, hb1⟩
    have hs1 := hb1.size
    simp at hs1
    have hbb : Below w.heap.size w w1 := ((Below.refl _ _).alloc (Nat.le_refl _) _).trans (hb1.mono (by go_size))
    have q0 : w1.cell? ⟨w.heap.size, 0, none⟩ = some (.int .i64 t.kind) := by rw [hb1.cell (by simp)]; simp
    clear hb1
    go_wp2
    go_ret
    exact ⟨ret_bool (by rw [hf.out, h2]; simp), hbb⟩
  · go_enter Tryz.func127, Tryz.ntmps127
    go_wp2_with fail
    refine (c_closed t.size t 0 _ L B _ (Nat.le_refl _) (HT0.out.below ((Below.refl _ _).alloc (Nat.le_refl _) _) hB) (by go_size) HO0.out (by omega) (by omega) (by omega)).mono ?_
    rintro e w1 ⟨rfl, hb1⟩
    have hs1 := hb1.size
    simp at hs1
    have hbb : Below w.heap.size w w1 := ((Below.refl _ _).alloc (Nat.le_refl _) _).trans (hb1.mono (by go_size))
    have q0 : w1.cell? ⟨w.heap.size, 0, none⟩ = some (.int .i64 t.kind) := by rw [hb1.cell (by simp)]; simp
    have q1 : w1.cell? ⟨w.heap.size, 1, none⟩ = some (.string t.name) := by rw [hb1.cell (by simp)]; simp
    have q2 : w1.cell? ⟨w.heap.size, 2, none⟩ = some (.int .i64 t.index) := by rw [hb1.cell (by simp)]; simp
    have q3 : w1.cell? ⟨w.heap.size, 3, none⟩ = some (.slice A t.args.length c) := by rw [hb1.cell (by simp)]; simp
    clear hb1
    go_wp2_with fail
    refine (HC.out _ hbb).mono ?_
    rintro e w2 ⟨rfl, hb2⟩
    have hr := Lib.hid hf.out
    go_wp2
    go_ret
    exact ⟨ret_bool (by rw [hf.out, h2]; simp), hbb.trans (hb2.mono (by omega))⟩
end Go.Proofs.YtdjldmpfginkdaaGreatDoor
