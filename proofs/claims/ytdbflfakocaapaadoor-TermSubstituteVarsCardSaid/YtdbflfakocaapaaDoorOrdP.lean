/- Plain: the order of terms: a total order. -/
import Derived.Test.YtdbflfakocaapaaDoorNamesP
namespace Go.Proofs.YtdbflfakocaapaaDoor

def cI (a b : Int) : Int := if a < b then -1 else if b < a then 1 else 0
def cS (a b : ByteArray) : Int := if Op.bytesLess a.toList b.toList = true then -1 else if Op.bytesLess b.toList a.toList = true then 1 else 0
def or0 (a b : Int) : Int := if a = 0 then b else a

/-- What three comparisons (a with b, b with c, a with c) tell of a total order. -/
def Tri (x y z : Int) : Prop := (x < 0 → y < 0 → z < 0) ∧ (0 < x → 0 < y → 0 < z) ∧ (x = 0 → z = y) ∧ (y = 0 → z = x)

theorem Tri.or0 {x1 y1 z1 x2 y2 z2 : Int} (h : Tri x1 y1 z1) (h2 : x1 = 0 → y1 = 0 → Tri x2 y2 z2) : Tri (or0 x1 x2) (or0 y1 y2) (or0 z1 z2) := by
  obtain ⟨a, b, c, d⟩ := h
  by_cases hx : x1 = 0
  · by_cases hy : y1 = 0
    · have hz : z1 = 0 := by rw [c hx, hy]
      have := h2 hx hy
      simpa [Proofs.YtdbflfakocaapaaDoor.or0, hx, hy, hz] using this
    · have hz : z1 = y1 := c hx
      simp only [Proofs.YtdbflfakocaapaaDoor.or0, hx, hy, hz, if_true, if_false]
      refine ⟨?_, ?_, fun _ => rfl, fun e => absurd e hy⟩ <;> intro _ h <;> exact h
  · by_cases hy : y1 = 0
    · have hz : z1 = x1 := d hy
      simp only [Proofs.YtdbflfakocaapaaDoor.or0, hx, hy, hz, if_true, if_false]
      refine ⟨?_, ?_, fun e => absurd e hx, fun _ => rfl⟩ <;> intro h _ <;> exact h
    · simp only [Proofs.YtdbflfakocaapaaDoor.or0, hx, hy, if_false]
      by_cases hz : z1 = 0
      · simp only [hz, if_true]
        refine ⟨fun h1 h2 => ?_, fun h1 h2 => ?_, fun e => absurd e hx, fun e => absurd e hy⟩
        · have := a h1 h2; omega
        · have := b h1 h2; omega
      · simp only [hz, if_false]
        exact ⟨a, b, c, d⟩
theorem cI_tri (a b c : Int) : Tri (cI a b) (cI b c) (cI a c) := by
  unfold Tri cI
  refine ⟨?_, ?_, ?_, ?_⟩ <;> (repeat' split) <;> omega
theorem cI_neg (a b : Int) : cI b a = -cI a b := by unfold cI; (repeat' split) <;> omega
theorem cI_zero (a b : Int) : cI a b = 0 ↔ a = b := by unfold cI; (repeat' split) <;> omega
theorem cI_in (a b : Int) : -1 ≤ cI a b ∧ cI a b ≤ 1 := by unfold cI; (repeat' split) <;> omega

theorem bl_asymm {a b : List UInt8} (h : Op.bytesLess a b = true) : Op.bytesLess b a = false := by
  rcases hb : Op.bytesLess b a with _ | _
  · rfl
  · have := bl_trans _ _ _ h hb
    rw [bl_irrefl] at this
    cases this
theorem cS_cases (a b : ByteArray) : (cS a b = -1 ∧ Op.bytesLess a.toList b.toList = true) ∨ (cS a b = 0 ∧ a.toList = b.toList) ∨ (cS a b = 1 ∧ Op.bytesLess b.toList a.toList = true) := by
  unfold cS
  rcases bl_total a.toList b.toList with h | h | h
  · exact .inl ⟨by rw [if_pos h], h⟩
  · refine .inr (.inl ⟨?_, h⟩)
    rw [h, bl_irrefl]; simp
  · refine .inr (.inr ⟨?_, h⟩)
    rw [bl_asymm h, h]; simp
theorem cS_lt {a b : ByteArray} (h : Op.bytesLess a.toList b.toList = true) : cS a b = -1 := by unfold cS; rw [if_pos h]
theorem cS_gt {a b : ByteArray} (h : Op.bytesLess b.toList a.toList = true) : cS a b = 1 := by unfold cS; rw [bl_asymm h, h]; simp
theorem cS_eq {a b : ByteArray} (h : a.toList = b.toList) : cS a b = 0 := by unfold cS; rw [h, bl_irrefl]; simp
theorem cS_tri (a b c : ByteArray) : Tri (cS a b) (cS b c) (cS a c) := by
  rcases cS_cases a b with ⟨e1, h1⟩ | ⟨e1, h1⟩ | ⟨e1, h1⟩ <;> rcases cS_cases b c with ⟨e2, h2⟩ | ⟨e2, h2⟩ | ⟨e2, h2⟩
  · rw [e1, e2, cS_lt (bl_trans _ _ _ h1 h2)]; unfold Tri; omega
  · rw [e1, e2, cS_lt (by rw [← h2]; exact h1)]; unfold Tri; omega
  · rw [e1, e2]; unfold Tri; omega
  · rw [e1, e2, cS_lt (by rw [h1]; exact h2)]; unfold Tri; omega
  · rw [e1, e2, cS_eq (h1.trans h2)]; unfold Tri; omega
  · rw [e1, e2, cS_gt (by rw [h1]; exact h2)]; unfold Tri; omega
  · rw [e1, e2]; unfold Tri; omega
  · rw [e1, e2, cS_gt (by rw [← h2]; exact h1)]; unfold Tri; omega
  · rw [e1, e2, cS_gt (bl_trans _ _ _ h2 h1)]; unfold Tri; omega
theorem cS_neg (a b : ByteArray) : cS b a = -cS a b := by
  rcases cS_cases a b with ⟨e1, h1⟩ | ⟨e1, h1⟩ | ⟨e1, h1⟩
  · rw [e1, cS_gt h1]; rfl
  · rw [e1, cS_eq h1.symm]; rfl
  · rw [e1, cS_lt h1]
theorem cS_in (a b : ByteArray) : -1 ≤ cS a b ∧ cS a b ≤ 1 := by
  rcases cS_cases a b with ⟨e1, h1⟩ | ⟨e1, h1⟩ | ⟨e1, h1⟩ <;> omega
theorem or0_neg {a b c d : Int} (h1 : b = -a) (h2 : d = -c) : or0 b d = -or0 a c := by
  unfold or0; split <;> split <;> omega
theorem or0_in {a b : Int} (h1 : -1 ≤ a ∧ a ≤ 1) (h2 : -1 ≤ b ∧ b ≤ 1) : -1 ≤ or0 a b ∧ or0 a b ≤ 1 := by
  unfold or0; split <;> omega
theorem or0_zero (a b : Int) : or0 a b = 0 ↔ a = 0 ∧ b = 0 := by
  unfold or0; split
  · simp [*]
  · simp [*]
theorem or0_assoc (a b c : Int) : or0 (or0 a b) c = or0 a (or0 b c) := by
  unfold or0
  by_cases h : a = 0 <;> simp [h]

/-- The comparison of two roots. -/
def hd4 (k : Int) (n : ByteArray) (i : Int) (l : Nat) (k' : Int) (n' : ByteArray) (i' : Int) (l' : Nat) : Int := or0 (cI k k') (or0 (cS n n') (or0 (cI i i') (cI l l')))
mutual
def Ty.cmp : Ty → Ty → Int
  | ⟨k, n, i, xs⟩, b => or0 (hd4 k n i xs.length b.kind b.name b.index b.args.length) (Ty.cmps xs b.args)
def Ty.cmps : List Ty → List Ty → Int
  | [], _ => 0
  | _ :: _, [] => 0
  | a :: xs, b :: ys => or0 (Ty.cmp a b) (Ty.cmps xs ys)
 end
def Ty.hd (a b : Ty) : Int := hd4 a.kind a.name a.index a.args.length b.kind b.name b.index b.args.length
theorem Ty.cmp_eq (a b : Ty) : a.cmp b = or0 (a.hd b) (Ty.cmps a.args b.args) := by cases a; rw [Ty.cmp]; rfl
theorem Ty.hd_len {a b : Ty} (h : a.hd b = 0) : a.args.length = b.args.length := by
  unfold Ty.hd hd4 at h
  simp only [or0_zero, cI_zero] at h
  have := h.2.2.2
  omega
theorem Ty.hd_tri (a b c : Ty) : Tri (a.hd b) (b.hd c) (a.hd c) := by
  unfold Ty.hd hd4
  exact (cI_tri _ _ _).or0 fun _ _ => (cS_tri _ _ _).or0 fun _ _ => (cI_tri _ _ _).or0 fun _ _ => cI_tri _ _ _
theorem Ty.hd_neg (a b : Ty) : b.hd a = -a.hd b := by
  unfold Ty.hd hd4
  exact or0_neg (cI_neg _ _) (or0_neg (cS_neg _ _) (or0_neg (cI_neg _ _) (cI_neg _ _)))
theorem Ty.hd_in (a b : Ty) : -1 ≤ a.hd b ∧ a.hd b ≤ 1 := by
  unfold Ty.hd hd4
  exact or0_in (cI_in _ _) (or0_in (cS_in _ _) (or0_in (cI_in _ _) (cI_in _ _)))
mutual
theorem Ty.cmp_tri : ∀ a b c : Ty, Tri (a.cmp b) (b.cmp c) (a.cmp c)
  | ⟨k, n, i, xs⟩, b, c => by
    rw [Ty.cmp_eq, Ty.cmp_eq, Ty.cmp_eq]
    exact (Ty.hd_tri _ _ _).or0 fun h1 h2 => Ty.cmps_tri xs b.args c.args (Ty.hd_len h1) (Ty.hd_len h2)
theorem Ty.cmps_tri : ∀ a b c : List Ty, a.length = b.length → b.length = c.length → Tri (Ty.cmps a b) (Ty.cmps b c) (Ty.cmps a c)
  | [], [], [], _, _ => by unfold Ty.cmps Tri; omega
  | a :: xs, b :: ys, c :: zs, h1, h2 => by
    rw [Ty.cmps, Ty.cmps, Ty.cmps]
    exact (Ty.cmp_tri a b c).or0 fun _ _ => Ty.cmps_tri xs ys zs (by simpa using h1) (by simpa using h2)
  | [], _ :: _, _, h, _ => by simp at h
  | _ :: _, [], _, h, _ => by simp at h
  | [], [], _ :: _, _, h => by simp at h
  | _ :: _, _ :: _, [], _, h => by simp at h
 end
mutual
theorem Ty.cmp_neg : ∀ a b : Ty, b.cmp a = -a.cmp b
  | ⟨k, n, i, xs⟩, ⟨k', n', i', ys⟩ => by
    rw [Ty.cmp_eq, Ty.cmp_eq]
    exact or0_neg (Ty.hd_neg _ _) (Ty.cmps_neg xs ys)
theorem Ty.cmps_neg : ∀ a b : List Ty, Ty.cmps b a = -Ty.cmps a b
  | [], [] => by unfold Ty.cmps; rfl
  | a :: xs, b :: ys => by
    rw [Ty.cmps, Ty.cmps]
    exact or0_neg (Ty.cmp_neg a b) (Ty.cmps_neg xs ys)
  | [], _ :: _ => by unfold Ty.cmps; rfl
  | _ :: _, [] => by unfold Ty.cmps; rfl
 end
mutual
theorem Ty.cmp_in : ∀ a b : Ty, -1 ≤ a.cmp b ∧ a.cmp b ≤ 1
  | ⟨k, n, i, xs⟩, b => by
    rw [Ty.cmp_eq]
    exact or0_in (Ty.hd_in _ _) (Ty.cmps_in xs b.args)
theorem Ty.cmps_in : ∀ a b : List Ty, -1 ≤ Ty.cmps a b ∧ Ty.cmps a b ≤ 1
  | [], _ => by unfold Ty.cmps; omega
  | a :: xs, b :: ys => by
    rw [Ty.cmps]
    exact or0_in (Ty.cmp_in a b) (Ty.cmps_in xs ys)
  | _ :: _, [] => by unfold Ty.cmps; omega
 end
theorem Ty.cmp_self (a : Ty) : a.cmp a = 0 := by have := Ty.cmp_neg a a; omega
theorem Ty.cmps_take (xs ys : List Ty) (j : Nat) (h1 : j < xs.length) (h2 : j < ys.length) : Ty.cmps (xs.take (j + 1)) (ys.take (j + 1)) = or0 (Ty.cmps (xs.take j) (ys.take j)) (xs[j].cmp ys[j]) := by
  induction xs generalizing ys j with
  | nil => simp at h1
  | cons a xs ih =>
    rcases ys with _ | ⟨b, ys⟩
    · simp at h2
    rcases j with _ | j
    · simp [Ty.cmps, or0]
      exact fun h => h.symm
    · have := ih ys j (by simpa using h1) (by simpa using h2)
      simp only [List.take_succ_cons, Ty.cmps, List.getElem_cons_succ]
      rw [this, or0_assoc]
theorem Ty.cmps_stop (xs ys : List Ty) (j : Nat) (h : Ty.cmps (xs.take j) (ys.take j) ≠ 0) : Ty.cmps xs ys = Ty.cmps (xs.take j) (ys.take j) := by
  induction xs generalizing ys j with
  | nil => simp [Ty.cmps] at h
  | cons a xs ih =>
    rcases ys with _ | ⟨b, ys⟩
    · simp at h
      rcases j with _ | j <;> simp [Ty.cmps] at h
    rcases j with _ | j
    · simp [Ty.cmps] at h
    · simp only [List.take_succ_cons, Ty.cmps] at h ⊢
      by_cases hc : a.cmp b = 0
      · simp only [or0, hc, if_true] at h ⊢
        exact ih ys j h
      · simp [or0, hc]
/-- The loop's invariant: behind j rounds. -/
def Ty.cmpTo (a b : Ty) (j : Nat) : Int := or0 (a.hd b) (Ty.cmps (a.args.take j) (b.args.take j))
theorem Ty.cmpTo_zero (a b : Ty) : a.cmpTo b 0 = a.hd b := by unfold Ty.cmpTo or0; split <;> simp [Ty.cmps, *]
theorem Ty.cmpTo_succ (a b : Ty) (j : Nat) (h : a.cmpTo b j = 0) (h1 : j < a.args.length) (h2 : j < b.args.length) : a.cmpTo b (j + 1) = a.args[j].cmp b.args[j] := by
  unfold Ty.cmpTo at h ⊢
  obtain ⟨e1, e2⟩ := (or0_zero _ _).1 h
  rw [Ty.cmps_take _ _ _ h1 h2, e2, e1]
  simp [or0]
theorem Ty.cmpTo_stop (a b : Ty) (j : Nat) (h : a.cmpTo b j ≠ 0) : a.cmp b = a.cmpTo b j := by
  rw [Ty.cmp_eq]
  unfold Ty.cmpTo at h ⊢
  by_cases hh : a.hd b = 0
  · simp only [or0, hh, if_true] at h ⊢
    exact Ty.cmps_stop _ _ _ h
  · simp [or0, hh]
theorem Ty.cmpTo_len (a b : Ty) (j : Nat) (h : a.cmpTo b j = 0) : a.args.length = b.args.length := Ty.hd_len ((or0_zero _ _).1 h).1
theorem Ty.cmpTo_end (a b : Ty) (h : a.cmpTo b a.args.length = 0) : a.cmp b = 0 := by
  have hl := Ty.cmpTo_len a b _ h
  rw [Ty.cmp_eq]
  unfold Ty.cmpTo at h
  rw [List.take_length, hl, List.take_length] at h
  exact h
theorem Ty.cmpTo_in (a b : Ty) (j : Nat) : -1 ≤ a.cmpTo b j ∧ a.cmpTo b j ≤ 1 := or0_in (Ty.hd_in _ _) (Ty.cmps_in _ _)
/-- The law's last line. -/
theorem Ty.order_law (a b c : Ty) : ((0 < a.cmp b ∨ 0 < b.cmp c) ∨ a.cmp c ≤ 0) ∧ ((a.cmp b < 0 ∨ b.cmp c < 0) ∨ 0 ≤ a.cmp c) := by
  obtain ⟨h1, h2, h3, h4⟩ := Ty.cmp_tri a b c
  omega
end Go.Proofs.YtdbflfakocaapaaDoor
