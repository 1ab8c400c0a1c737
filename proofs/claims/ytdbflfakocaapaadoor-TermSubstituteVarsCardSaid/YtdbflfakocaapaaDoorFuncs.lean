/- Contracts of slices.IndexFunc and slices.ContainsFunc at slices of terms, for every predicate that has a contract. -/
import Derived.Test.YtdbflfakocaapaaDoorFree
namespace Go.Proofs.YtdbflfakocaapaaDoor
open Go.RowKit

/-- The index of the first element that satisfies p, or -1. -/
def idxP {α : Type} (p : α → Bool) (ts : List α) : Int := match ts.findIdx? p with
  | some i => (i : Int)
  | none => -1
theorem idxP_none {α : Type} (p : α → Bool) (ts : List α) (h : ∀ (i : Nat) (hi : i < ts.length), p ts[i] = false) : idxP p ts = -1 := by
  have : ts.findIdx? p = none := by
    rw [List.findIdx?_eq_none_iff]
    intro x hx
    obtain ⟨i, hi, rfl⟩ := List.getElem_of_mem hx
    exact h i hi
  simp [idxP, this]
theorem idxP_some {α : Type} (p : α → Bool) (ts : List α) (j : Nat) (hj : j < ts.length) (h : ∀ (i : Nat) (hi : i < ts.length), i < j → p ts[i] = false) (hp : p ts[j] = true) : idxP p ts = j := by
  have : ts.findIdx? p = some j := by
    rw [List.findIdx?_eq_some_iff_getElem]
    exact ⟨hj, by simpa using hp, fun i hi => by simpa using h i (by omega) hi⟩
  simp [idxP, this]
theorem idxP_any {α : Type} (p : α → Bool) (ts : List α) : (0 ≤ idxP p ts) ↔ ts.any p = true := by
  cases h : ts.findIdx? p with
  | none =>
    have h1 : idxP p ts = -1 := by simp [idxP, h]
    rw [List.findIdx?_eq_none_iff] at h
    rw [h1]
    constructor
    · intro h; omega
    · intro h2
      rw [List.any_eq_true] at h2
      obtain ⟨x, hx, hp⟩ := h2
      rw [h x hx] at hp
      cases hp
  | some i =>
    have h1 : idxP p ts = i := by simp [idxP, h]
    rw [List.findIdx?_eq_some_iff_getElem] at h
    obtain ⟨hi, hp, _⟩ := h
    rw [h1]
    constructor
    · intro _
      rw [List.any_eq_true]
      exact ⟨ts[i], List.getElem_mem hi, by simpa using hp⟩
    · intro _; omega

/-- F is a function with a body. -/
def EntersF (F : FuncId) : Prop := ∀ (args : Array Value) (w : World), (callFunc F args).run Tryd.prog w = .ok (.enter F args) w
/-- The function value F, with what it has captured, computes p on the terms ts, in every world that has grown out of w. -/
def PredTy (F : FuncId) (caps : Array Value) (p : Ty → Bool) (ts : List Ty) (w : World) (L B : Nat) : Prop :=
  ∀ (j : Nat) (hj : j < ts.length) (W : World) (v : Value), Below w.heap.size w W → IsTy W L B ts[j] v → Calls Tryd.prog F (#[v] ++ caps) W fun e w' => e = .returned (.bool (p ts[j])) ∧ Below W.heap.size W w'

set_option maxHeartbeats 1000000 in
theorem c_IndexFunc (F : FuncId) (caps : Array Value) (p : Ty → Bool) (ts : List Ty) (v : Value) (w : World) (L B : Nat) (hv : IsTyl w L B ts v) (hB : B ≤ w.heap.size) (hn : ts.length ≤ 2 ^ 40) (hF : EntersF F) (hf : PredTy F caps p ts w L B) :
    Calls Tryd.prog 88 #[v, .func (.func F) #[] caps] w fun e w' => e = .returned (.int .i64 (idxP p ts)) ∧ Below w.heap.size w w' := by
  obtain ⟨A, c, rfl⟩ : ∃ A c, v = .slice A ts.length c := by obtain ⟨A, c, h, _⟩ := hv; exact ⟨A, c, h⟩
  have HV := Lib.hid hv; clear hv
  have HF := Lib.hid hf; clear hf
  unfold EntersF at hF
  generalize hl : ts.length = n at *
  have Hn := Lib.hid hl; clear hl
  go_enter Tryd.func88, Tryd.ntmps88
  go_wp2
  go_loopw [8] (fun i wr => ∃ j : Nat, j ≤ n ∧ i = .int .i64 j ∧ Hid (∀ (i : Nat) (hi : i < ts.length), i < j → p ts[i] = false) ∧ Below w.heap.size w wr) (fun i _ => n - (intOf i).toNat)
  case atStart => exact ⟨0, by omega, rfl, Lib.hid (fun _ _ h => by omega), Below.refl _ _⟩
  case round =>
    obtain ⟨j, hj, rfl, hall, hb⟩ := hrel
    by_cases hjn : j < n
    · obtain ⟨g, o, A', c', hj', rfl, hg1, hg2, c0, c1, c2, c3, ht⟩ := HV.out.at_ (KeepIn.of_below hb hB) hjn
      have HC := Lib.hid (HF.out j hj' wr _ hb ht)
      have hfalse : Hid (p ts[j] = true → idxP p ts = j) := Lib.hid (idxP_some p ts j hj' hall.out)
      have htrue : Hid (p ts[j] = false → ∀ (i : Nat) (hi : i < ts.length), i < j + 1 → p ts[i] = false) := Lib.hid (fun h i hi hij => by
        rcases Nat.lt_or_ge i j with h1 | h1
        · exact hall.out i hi h1
        · obtain rfl : i = j := by omega
          exact h)
      generalize p ts[j] = r at *
      generalize ts[j] = tj at *
      clear ht
      have hs := hb.size
      go_wp2_with fail
      refine HC.out.mono ?_
      rintro e w2 ⟨rfl, hb2⟩
      cases r
      · have hz := Lib.hid (htrue.out rfl)
        go_wp2
        go_roundw
        case rel => exact ⟨j + 1, by omega, by go_num, hz, hb.trans (hb2.mono (by omega))⟩
        case measure => simp [intOf]; omega
      · have hz := Lib.hid (hfalse.out rfl)
        go_wp2
        go_ret
        exact ⟨ret_int (by rw [hz.out]), hb.trans (hb2.mono (by omega))⟩
    · obtain rfl : j = n := by omega
      have hz : Hid (idxP p ts = -1) := Lib.hid (idxP_none p ts fun i hi => hall.out i hi (by rw [← Hn.out]; exact hi))
      go_wp2
      go_ret
      exact ⟨ret_int (by rw [hz.out]), hb⟩

set_option maxHeartbeats 400000 in
theorem c_ContainsFunc (F : FuncId) (caps : Array Value) (p : Ty → Bool) (ts : List Ty) (v : Value) (w : World) (L B : Nat) (hv : IsTyl w L B ts v) (hB : B ≤ w.heap.size) (hn : ts.length ≤ 2 ^ 40) (hF : EntersF F) (hf : PredTy F caps p ts w L B) :
    Calls Tryd.prog 71 #[v, .func (.func F) #[] caps] w fun e w' => e = .returned (.bool (ts.any p)) ∧ Below w.heap.size w w' := by
  have HC := Lib.hid (c_IndexFunc F caps p ts v w L B hv hB hn hF hf)
  clear hF
  have hi := Lib.hid (idxP_any p ts)
  obtain ⟨A, c, rfl⟩ : ∃ A c, v = .slice A ts.length c := by obtain ⟨A, c, h, _⟩ := hv; exact ⟨A, c, h⟩
  clear hv hf
  generalize idxP p ts = ix at *
  have hpost : Hid (∀ b : Bool, (b = true ↔ 0 ≤ ix) → b = ts.any p) := Lib.hid (fun b hb => by rw [Bool.eq_iff_iff, hb, hi.out])
  generalize ts.any p = res at *
  clear hi
  go_enter Tryd.func71, Tryd.ntmps71
  go_wp2_with fail
  refine HC.out.mono ?_
  rintro e w2 ⟨rfl, hb2⟩
  go_wp2
  go_ret
  exact ⟨ret_bool (hpost.out _ (by simp)), hb2⟩
end Go.Proofs.YtdbflfakocaapaaDoor
