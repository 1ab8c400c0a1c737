/- Contracts of typeterm.IsPlain and plainArgs. -/
import Derived.Test.YtdbflfakocaapaaDoorFuncs
namespace Go.Proofs.YtdbflfakocaapaaDoor
open Go.RowKit

/-- What IsPlain is to do on one term. -/
def PlainAt (t : Ty) (L B : Nat) : Prop := ∀ (W : World) (v : Value), IsTy W L B t v → B ≤ W.heap.size → Calls Tryd.prog 33 #[v] W fun e w' => e = .returned (.bool t.plain) ∧ Below W.heap.size W w'

set_option maxHeartbeats 400000 in
theorem c_plainArgs1 (t : Ty) (L B : Nat) (h : PlainAt t L B) (w : World) (v : Value) (hv : IsTy w L B t v) (hB : B ≤ w.heap.size) :
    Calls Tryd.prog 82 #[v] w fun e w' => e = .returned (.bool (!t.plain)) ∧ Below w.heap.size w w' := by
  have HT := Lib.hid hv
  obtain ⟨A, c, rfl, _⟩ := hv.args_
  clear hv
  have HH := Lib.hid h; clear h
  go_enter Tryd.func82, Tryd.ntmps82
  go_wp2_with fail
  refine (HH.out _ _ (HT.out.below ((Below.refl _ _).alloc (Nat.le_refl _) _) hB) (by go_size)).mono ?_
  rintro e w1 ⟨rfl, hb1⟩
  go_wp2
  go_ret
  exact ⟨rfl, ((Below.refl _ _).alloc (Nat.le_refl _) _).trans (hb1.mono (by go_size))⟩
theorem plains_any (ts : List Ty) : (!(ts.any fun t => !t.plain)) = Ty.plains ts := by
  rw [Bool.eq_iff_iff, Ty.plains_iff]
  simp only [Bool.not_eq_true', List.any_eq_false]
  constructor
  · intro h j hj
    have := h ts[j] (List.getElem_mem hj)
    simpa using this
  · intro h x hx
    obtain ⟨j, hj, rfl⟩ := List.getElem_of_mem hx
    simpa using h j hj
set_option maxHeartbeats 400000 in
theorem c_plainArgs (t : Ty) (w : World) (L B : Nat) (v : Value) (hv : IsTy w L B t v) (hB : B ≤ w.heap.size) (hM : t.size ≤ 2 ^ 40) (h : ∀ (j : Nat) (hj : j < t.args.length), PlainAt t.args[j] L B) :
    Calls Tryd.prog 59 #[v] w fun e w' => e = .returned (.bool (Ty.plains t.args)) ∧ Below w.heap.size w w' := by
  obtain ⟨A, c, rfl, hl⟩ := hv.args_
  have hsz := Ty.size_eq t
  have hle := Ty.len_le t.args
  have HC := Lib.hid (fun (W : World) (hW : Below w.heap.size w W) => c_ContainsFunc 82 #[] (fun t => !t.plain) t.args _ W L B (hl.keep (KeepIn.of_below hW hB) (Nat.le_refl _) (Nat.le_refl _)) (Nat.le_trans hB hW.size) (by omega) Tryd.call82
    (fun j hj W' v' hW' hv' => c_plainArgs1 _ L B (h j hj) W' v' hv' (Nat.le_trans hB (Nat.le_trans hW.size hW'.size))))
  have hp := Lib.hid (plains_any t.args)
  clear hl h hv hle hsz
  generalize t.args.length = n at *
  go_enter Tryd.func59, Tryd.ntmps59
  go_wp2_with fail
  refine (HC.out _ ((Below.refl _ _).alloc (Nat.le_refl _) _)).mono ?_
  rintro e w1 ⟨rfl, hb1⟩
  generalize (t.args.any fun t => !t.plain) = r at *
  go_wp2
  go_ret
  exact ⟨ret_bool hp.out, ((Below.refl _ _).alloc (Nat.le_refl _) _).trans (hb1.mono (by go_size))⟩

set_option maxHeartbeats 1000000 in
theorem c_IsPlain (N : Nat) : ∀ (t : Ty) (L B : Nat), t.size ≤ N → t.ok → t.size ≤ 2 ^ 30 → PlainAt t L B := by
  induction N with
  | zero => intro t L B h; have := t.size_pos; omega
  | succ N ih =>
  intro t L B hN hok hM w v ht0 hB
  have HT0 := Lib.hid ht0
  obtain ⟨A, c, rfl, hv⟩ := ht0.args_
  clear ht0 hv
  have HO0 := Lib.hid hok
  rw [Ty.ok_eq] at hok
  have hsz := Ty.size_eq t
  have HC := Lib.hid (fun (W : World) (hW : Below w.heap.size w W) => c_plainArgs t W L B _ (HT0.out.below hW hB) (Nat.le_trans hB hW.size) (by omega) (fun j hj => by
    have hg := Ty.size_get j hj
    exact ih _ L B (by omega) (Ty.ok_get hok.2.2 j hj) (by omega)))
  clear hok ih hsz
  cases h5 : (t.kind == 5)
  rotate_left
  · have hf : Hid (t.plain = true) := Lib.hid (by rw [Ty.plain_eq, h5]; simp)
    go_enter Tryd.func33, Tryd.ntmps33
    go_wp2
    go_ret
    exact ⟨ret_bool (by rw [hf.out]), (Below.refl _ _).alloc (Nat.le_refl _) _⟩
  cases hcl : t.closed 0
  rotate_left
  · have hf : Hid (t.plain = true) := Lib.hid (by rw [Ty.plain_eq, hcl]; simp)
    go_enter Tryd.func33, Tryd.ntmps33
    go_wp2_with fail
    refine (c_closed t.size t 0 _ L B _ (Nat.le_refl _) (HT0.out.below ((Below.refl _ _).alloc (Nat.le_refl _) _) hB) (by go_size) HO0.out (by omega) (by omega) (by omega)).mono ?_
    rintro e w1 ⟨rfl, hb1⟩
    go_wp2
    go_ret
    exact ⟨ret_bool (by rw [hf.out]), ((Below.refl _ _).alloc (Nat.le_refl _) _).trans (hb1.mono (by go_size))⟩
  have hf := Lib.hid (Ty.plain_false h5 hcl)
  cases h2 : (t.kind == 2)
  · go_enter Tryd.func33, Tryd.ntmps33
    go_wp2_with fail
    refine (c_closed t.size t 0 _ L B _ (Nat.le_refl _) (HT0.out.below ((Below.refl _ _).alloc (Nat.le_refl _) _) hB) (by go_size) HO0.out (by omega) (by omega) (by omega)).mono ?_
    rintro e w1 ⟨rfl, hb1⟩
    have hs1 := hb1.size
    simp at hs1
    have hbb : Below w.heap.size w w1 := ((Below.refl _ _).alloc (Nat.le_refl _) _).trans (hb1.mono (by go_size))
    have q0 : w1.cell? ⟨w.heap.size, 0, none⟩ = some (.int .i64 t.kind) := by rw [hb1.cell (by simp)]; simp
    clear hb1
    go_wp2
    go_ret
    exact ⟨ret_bool (by rw [hf.out, h2]; simp), hbb⟩
  · go_enter Tryd.func33, Tryd.ntmps33
    go_wp2_with fail
    refine (c_closed t.size t 0 _ L B _ (Nat.le_refl _) (HT0.out.below ((Below.refl _ _).alloc (Nat.le_refl _) _) hB) (by go_size) HO0.out (by omega) (by omega) (by omega)).mono ?_
    rintro e w1 ⟨rfl, hb1⟩
    have hs1 := hb1.size
    simp at hs1
    have hbb : Below w.heap.size w w1 := ((Below.refl _ _).alloc (Nat.le_refl _) _).trans (hb1.mono (by go_size))
    have q0 : w1.cell? ⟨w.heap.size, 0, none⟩ = some (.int .i64 t.kind) := by rw [hb1.cell (by simp)]; simp
    have q1 : w1.cell? ⟨w.heap.size, 1, none⟩ = some (.string t.name) := by rw [hb1.cell (by simp)]; simp
    have q2 : w1.cell? ⟨w.heap.size, 2, none⟩ = some (.int .i64 t.index) := by rw [hb1.cell (by simp)]; simp
    have q3 : w1.cell? ⟨w.heap.size, 3, none⟩ = some (.slice A t.args.length c) := by rw [hb1.cell (by simp)]; simp
    clear hb1
    go_wp2_with fail
    refine (HC.out _ hbb).mono ?_
    rintro e w2 ⟨rfl, hb2⟩
    have hr := Lib.hid hf.out
    go_wp2
    go_ret
    exact ⟨ret_bool (by rw [hf.out, h2]; simp), hbb.trans (hb2.mono (by omega))⟩
end Go.Proofs.YtdbflfakocaapaaDoor
