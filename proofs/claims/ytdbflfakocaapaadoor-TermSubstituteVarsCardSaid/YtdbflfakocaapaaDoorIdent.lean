/- Contracts of the functions on identifiers, of the program and of the reference. -/
import Derived.Test.YtdbflfakocaapaaDoorPure
namespace Go.Proofs.YtdbflfakocaapaaDoor
open Go.RowKit

set_option maxHeartbeats 400000 in
theorem c_isLetter (c : Int) (w : World) : Calls Tryd.prog 89 #[.int .u8 c] w fun e w' => e = .returned (.bool (isLet c)) ∧ w = w' := by
  go_enter Tryd.func89, Tryd.ntmps89
  go_wp2
  all_goals (go_ret; refine ⟨ret_bool ?_, rfl⟩; rw [Bool.eq_iff_iff]; simp [isLet]; omega)
set_option maxHeartbeats 400000 in
theorem c_xisLetter (c : Int) (w : World) : Calls Tryd.prog 96 #[.int .u8 c] w fun e w' => e = .returned (.bool (isLet c)) ∧ w = w' := by
  go_enter Tryd.func96, Tryd.ntmps96
  go_wp2
  all_goals (go_ret; refine ⟨ret_bool ?_, rfl⟩; rw [Bool.eq_iff_iff]; simp [isLet]; omega)
set_option maxHeartbeats 400000 in
theorem c_isDigit (c : Int) (w : World) : Calls Tryd.prog 101 #[.int .u8 c] w fun e w' => e = .returned (.bool (isDig c)) ∧ w = w' := by
  go_enter Tryd.func101, Tryd.ntmps101
  go_wp2
  all_goals (go_ret; refine ⟨ret_bool ?_, rfl⟩; rw [Bool.eq_iff_iff]; simp [isDig]; omega)
set_option maxHeartbeats 400000 in
theorem c_xisDigit (c : Int) (w : World) : Calls Tryd.prog 110 #[.int .u8 c] w fun e w' => e = .returned (.bool (isDig c)) ∧ w = w' := by
  go_enter Tryd.func110, Tryd.ntmps110
  go_wp2
  all_goals (go_ret; refine ⟨ret_bool ?_, rfl⟩; rw [Bool.eq_iff_iff]; simp [isDig]; omega)
set_option maxHeartbeats 400000 in
theorem c_isWordByte (c : Int) (w : World) : Calls Tryd.prog 90 #[.int .u8 c] w fun e w' => e = .returned (.bool (isWB c)) ∧ w = w' := by
  cases hl : isLet c <;> cases hd : isDig c
  all_goals
    go_enter Tryd.func90, Tryd.ntmps90
    go_wp2_with (first | (go_at_call 89; refine (c_isLetter _ _).mono ?_; rintro e w' ⟨rfl, rfl⟩) | (go_at_call 101; refine (c_isDigit _ _).mono ?_; rintro e w' ⟨rfl, rfl⟩))
    all_goals (go_ret; refine ⟨ret_bool ?_, rfl⟩; simp_all [isWB])
set_option maxHeartbeats 400000 in
theorem c_xisWordByte (c : Int) (w : World) : Calls Tryd.prog 99 #[.int .u8 c] w fun e w' => e = .returned (.bool (isWB c)) ∧ w = w' := by
  cases hl : isLet c <;> cases hd : isDig c
  all_goals
    go_enter Tryd.func99, Tryd.ntmps99
    go_wp2_with (first | (go_at_call 96; refine (c_xisLetter _ _).mono ?_; rintro e w' ⟨rfl, rfl⟩) | (go_at_call 110; refine (c_xisDigit _ _).mono ?_; rintro e w' ⟨rfl, rfl⟩))
    all_goals (go_ret; refine ⟨ret_bool ?_, rfl⟩; simp_all [isWB])
set_option maxHeartbeats 400000 in
theorem c_IsIdent1 (c : Int) (w : World) : Calls Tryd.prog 98 #[.int .u8 c] w fun e w' => e = .returned (.bool (okB c)) ∧ w = w' := by
  by_cases h : c = 45
  · subst h
    go_enter Tryd.func98, Tryd.ntmps98
    go_wp2
    go_ret
    exact ⟨rfl, rfl⟩
  · have h1 : (c == 45) = false := by simpa using h
    have h2 : (c != 45) = true := by simpa using h
    go_enter Tryd.func98, Tryd.ntmps98
    go_wp2_with (go_at_call 99; refine (c_xisWordByte _ _).mono ?_; rintro e w' ⟨rfl, rfl⟩)
    go_ret
    exact ⟨ret_bool (by simp [okB, h]), rfl⟩
set_option maxHeartbeats 400000 in
theorem c_every (s : ByteArray) (w : World) (hs : s.size ≤ 24) : Calls Tryd.prog 97 #[.string s, .func (.func 98) #[] #[]] w fun e w' => e = .returned (.bool (everyB s)) ∧ w = w' := by
  go_enter Tryd.func97, Tryd.ntmps97
  go_wp2
  go_loop [5] (fun i => ∃ j : Nat, j ≤ s.size ∧ i = .int .i64 j ∧ Hid (everyTo s j = true)) (fun i => s.size - (intOf i).toNat)
  case atStart => exact ⟨0, by omega, rfl, Lib.hid (everyTo_zero s)⟩
  case round =>
    obtain ⟨j, hj, rfl, H⟩ := hrel
    by_cases hlt : j < s.size
    · have hts := Lib.hid (everyTo_succ s j hlt)
      cases hok : okB (byteI s[j])
      · have hf := Lib.hid (everyTo_false s j hlt hok)
        go_wp2_with fail
        refine (c_IsIdent1 (byteI s[j]) _).mono ?_
        rintro e w' ⟨rfl, rfl⟩
        go_wp2
        go_ret
        exact ⟨ret_bool (by rw [hf.out]), rfl⟩
      · go_wp2_with fail
        refine (c_IsIdent1 (byteI s[j]) _).mono ?_
        rintro e w' ⟨rfl, rfl⟩
        go_wp2
        go_round
        case rel => exact ⟨j + 1, by omega, by go_num, by rw [hts.out, H.out]; exact hok⟩
        case measure => simp [intOf]; omega
    · obtain rfl : j = s.size := by omega
      go_wp2
      go_ret
      exact ⟨ret_bool (by rw [everyB, H.out]), rfl⟩

theorem byteI_at (s : ByteArray) (h : 0 < s.size) : byteI (s.data.getD 0 0) = byteI s[0] := by
  have h' : 0 < s.data.size := h
  rw [Array.getD_eq_getD_getElem?, Array.getElem?_eq_getElem h']; rfl
set_option maxHeartbeats 400000 in
theorem c_xIsIdent (s : ByteArray) (w : World) : Calls Tryd.prog 86 #[.string s] w fun e w' => e = .returned (.bool (isIdent s)) ∧ w = w' := by
  by_cases h0 : s.size = 0
  · have h1 := (toList_nil s).2 h0
    have hf : Hid (isIdent s = false) := Lib.hid (by simp [isIdent, h0])
    clear h0
    go_enter Tryd.func86, Tryd.ntmps86
    go_wp2_with fail
    go_ret
    exact ⟨ret_bool (by rw [hf.out]), rfl⟩
  · have h1 : ¬ s.toList = [] := fun e => h0 ((toList_nil s).1 e)
    have hp : 0 < s.size := by omega
    by_cases h24 : s.size ≤ 24
    · have h24' : (s.size : Int) ≤ 24 := by omega
      cases hl : isLet (byteI s[0])
      · have hf : Hid (isIdent s = false) := Lib.hid (by simp only [isIdent]; rw [byteI_at s hp, hl]; simp)
        go_enter Tryd.func86, Tryd.ntmps86
        go_wp2_with fail
        refine (c_xisLetter (byteI s[0]) _).mono ?_
        rintro e w' ⟨rfl, rfl⟩
        go_wp2_with fail
        go_ret
        exact ⟨ret_bool (by rw [hf.out]), rfl⟩
      · have hf : Hid (isIdent s = everyB s) := Lib.hid (by simp only [isIdent]; rw [byteI_at s hp, hl]; simp; omega)
        go_enter Tryd.func86, Tryd.ntmps86
        go_wp2_with fail
        refine (c_xisLetter (byteI s[0]) _).mono ?_
        rintro e w' ⟨rfl, rfl⟩
        go_wp2_with fail
        refine (c_every s _ h24).mono ?_
        rintro e w' ⟨rfl, rfl⟩
        go_wp2_with fail
        go_ret
        exact ⟨ret_bool (by rw [hf.out]; simp [h1]), rfl⟩
    · have h24' : 24 < (s.size : Int) := by omega
      have hf : Hid (isIdent s = false) := Lib.hid (by simp [isIdent]; omega)
      go_enter Tryd.func86, Tryd.ntmps86
      go_wp2_with fail
      go_ret
      exact ⟨ret_bool (by rw [hf.out]), rfl⟩
set_option maxHeartbeats 400000 in
theorem c_rIsIdent (s : ByteArray) (w : World) : Calls Tryd.prog 73 #[.string s] w fun e w' => e = .returned (.bool (isIdent s)) ∧ w = w' := by
  by_cases h0 : 1 ≤ s.size
  · have hp : 0 < s.size := by omega
    have hp' : 1 ≤ (s.size : Int) := by omega
    by_cases h24 : s.size ≤ 24
    · have h24' : (s.size : Int) ≤ 24 := by omega
      cases hl : isLet (byteI s[0])
      · have hf : Hid (isIdent s = false) := Lib.hid (by simp only [isIdent]; rw [byteI_at s hp, hl]; simp)
        go_enter Tryd.func73, Tryd.ntmps73
        go_wp2_with fail
        refine (c_isLetter (byteI s[0]) _).mono ?_
        rintro e w' ⟨rfl, rfl⟩
        go_wp2_with fail
        go_ret
        exact ⟨ret_bool (by rw [hf.out]), rfl⟩
      · have hf : Hid (isIdent s = everyB s) := Lib.hid (by simp only [isIdent]; rw [byteI_at s hp, hl]; simp; omega)
        go_enter Tryd.func73, Tryd.ntmps73
        go_wp2_with fail
        refine (c_isLetter (byteI s[0]) _).mono ?_
        rintro e w' ⟨rfl, rfl⟩
        go_wp2_with fail
        go_loop [3] (fun i => ∃ j : Nat, j ≤ s.size ∧ i = .int .i64 j ∧ Hid (everyTo s j = true)) (fun i => s.size - (intOf i).toNat)
        case atStart => exact ⟨0, by omega, rfl, Lib.hid (everyTo_zero s)⟩
        case round =>
          obtain ⟨j, hj, rfl, H⟩ := hrel
          by_cases hlt : j < s.size
          · have hts := Lib.hid (everyTo_succ s j hlt)
            cases hw : isWB (byteI s[j])
            · have hf2 := Lib.hid (everyTo_false s j hlt (by simp [okB, hw]))
              go_wp2_with fail
              refine (c_isWordByte (byteI s[j]) _).mono ?_
              rintro e w' ⟨rfl, rfl⟩
              go_wp2
              go_ret
              exact ⟨ret_bool (by rw [hf.out, hf2.out]), rfl⟩
            · by_cases h45 : byteI s[j] = 45
              · have hf2 := Lib.hid (everyTo_false s j hlt (by simp [okB, h45]))
                have H45 : ((s[j].toNat : Int) == 45) = true := by rw [beq_iff_eq]; exact h45
                have HW := Lib.hid hw
                clear h45
                go_wp2_with fail
                refine (c_isWordByte (byteI s[j]) _).mono ?_
                rintro e w' ⟨rfl, rfl⟩
                go_wp2
                go_ret
                exact ⟨ret_bool (by rw [hf.out, hf2.out]), rfl⟩
              · have hok : Hid (okB (byteI s[j]) = true) := Lib.hid (by simp [okB, hw, h45])
                have H45 : ((s[j].toNat : Int) == 45) = false := by rw [beq_eq_false_iff_ne]; exact h45
                clear h45
                go_wp2_with fail
                refine (c_isWordByte (byteI s[j]) _).mono ?_
                rintro e w' ⟨rfl, rfl⟩
                go_wp2
                go_round
                case rel => exact ⟨j + 1, by omega, by go_num, by rw [hts.out, H.out]; exact hok⟩
                case measure => simp [intOf]; omega
          · obtain rfl : j = s.size := by omega
            go_wp2
            go_ret
            exact ⟨ret_bool (by rw [hf.out, everyB, H.out]), rfl⟩
    · have h24' : 24 < (s.size : Int) := by omega
      have hf : Hid (isIdent s = false) := Lib.hid (by simp [isIdent]; omega)
      go_enter Tryd.func73, Tryd.ntmps73
      go_wp2_with fail
      go_ret
      exact ⟨ret_bool (by rw [hf.out]), rfl⟩
  · have h0' : (s.size : Int) < 1 := by omega
    have hf : Hid (isIdent s = false) := Lib.hid (by simp [isIdent]; omega)
    go_enter Tryd.func73, Tryd.ntmps73
    go_wp2_with fail
    go_ret
    exact ⟨ret_bool (by rw [hf.out]), rfl⟩
set_option maxHeartbeats 400000 in
theorem c_IsTypeKeyword (s : ByteArray) (w : World) : Calls Tryd.prog 74 #[.string s] w fun e w' => e = .returned (.bool (isKw s)) ∧ w = w' := by
  go_enter Tryd.func74, Tryd.ntmps74
  go_wp2_with fail
  all_goals (go_ret; exact ⟨ret_bool (by simp_all [isKw, kwNames, Bool.or_assoc]), rfl⟩)
end Go.Proofs.YtdbflfakocaapaaDoor
