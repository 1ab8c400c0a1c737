/- Terms (api.Type) as a Lean type, and what it means that a value of the program reads as such a term in a world. No statement of the seat is proved here. -/
import Derived.Test.YtdbflfakocaapaaDoorRows
import Derived.WalkKit
import Derived.WalkSpells
import Derived.WalkLawsBesides
import Derived.Lib.Hide
import Derived.Handy
namespace Go.Proofs.YtdbflfakocaapaaDoor
open Go.RowKit

structure Ty where
  kind : Int
  name : ByteArray
  index : Int
  args : List Ty

mutual
def IsTy (w : World) (L B : Nat) : Ty → Value → Prop
  | ⟨k, nm, ix, args⟩, v => ∃ A c, v = .agg #[.int .i64 k, .string nm, .int .i64 ix, .slice A args.length c] ∧ args.length ≤ c ∧
      (args.length = 0 ∨ ∃ g o, A = some ⟨g, o, none⟩ ∧ L ≤ g ∧ g < B ∧ IsTys w L B args g o)
def IsTys (w : World) (L B : Nat) : List Ty → Nat → Nat → Prop
  | [], _, _ => True
  | t :: ts, g, o => (∃ v0 v1 v2 v3, w.cell? ⟨g, o, none⟩ = some v0 ∧ w.cell? ⟨g, o + 1, none⟩ = some v1 ∧ w.cell? ⟨g, o + 2, none⟩ = some v2 ∧ w.cell? ⟨g, o + 3, none⟩ = some v3 ∧ IsTy w L B t (.agg #[v0, v1, v2, v3])) ∧ IsTys w L B ts g (o + 4)
 end

def KeepIn (L B : Nat) (w w' : World) : Prop := ∀ b, L ≤ b → b < B → w'.heap[b]? = w.heap[b]?

theorem KeepIn.cell {L B : Nat} {w w' : World} (h : KeepIn L B w w') {a : Addr} (h1 : L ≤ a.block) (h2 : a.block < B) : w'.cell? a = w.cell? a :=
  World.cell?_of_block (w := w) (h a.block h1 h2)
theorem KeepIn.of_below {L B C : Nat} {w w' : World} (h : Below C w w') (hB : B ≤ C) : KeepIn L B w w' := fun b _ hb => h.block b (by omega)
theorem KeepIn.alloc {L B : Nat} {w : World} (o : Obj) (hB : B ≤ w.heap.size) : KeepIn L B w (w.alloc o) := fun b _ hb => Below.heap_alloc _ _ _ (by omega)
theorem KeepIn.refl (L B : Nat) (w : World) : KeepIn L B w w := fun _ _ _ => rfl

mutual
theorem IsTy.keep {w w' : World} {L B L' B' : Nat} (hk : KeepIn L B w w') (h1 : L' ≤ L) (h2 : B ≤ B') : ∀ {t : Ty} {v : Value}, IsTy w L B t v → IsTy w' L' B' t v
  | ⟨k, nm, ix, args⟩, v => by
    intro h
    unfold IsTy at h ⊢
    obtain ⟨A, c, hv, hc, h⟩ := h
    refine ⟨A, c, hv, hc, ?_⟩
    rcases h with h | ⟨g, o, hA, hl, hb, h⟩
    · exact .inl h
    · exact .inr ⟨g, o, hA, by omega, by omega, IsTys.keep hk h1 h2 hl hb h⟩
theorem IsTys.keep {w w' : World} {L B L' B' : Nat} {g : Nat} (hk : KeepIn L B w w') (h1 : L' ≤ L) (h2 : B ≤ B') (hg : L ≤ g) (hg2 : g < B) : ∀ {ts : List Ty} {o : Nat}, IsTys w L B ts g o → IsTys w' L' B' ts g o
  | [], o => by intro _; unfold IsTys; trivial
  | t :: ts, o => by
    intro h
    unfold IsTys at h ⊢
    obtain ⟨⟨v0, v1, v2, v3, c0, c1, c2, c3, ht⟩, hs⟩ := h
    refine ⟨⟨v0, v1, v2, v3, ?_, ?_, ?_, ?_, IsTy.keep hk h1 h2 ht⟩, IsTys.keep hk h1 h2 hg hg2 hs⟩ <;> rw [hk.cell (by exact hg) (by exact hg2)] <;> assumption
 end

theorem IsTy.below {w w' : World} {L B C : Nat} {t : Ty} {v : Value} (h : IsTy w L B t v) (hb : Below C w w') (hB : B ≤ C) : IsTy w' L B t v :=
  h.keep (KeepIn.of_below hb hB) (Nat.le_refl _) (Nat.le_refl _)
theorem IsTy.more {w : World} {L B L' B' : Nat} {t : Ty} {v : Value} (h : IsTy w L B t v) (h1 : L' ≤ L) (h2 : B ≤ B') : IsTy w L' B' t v :=
  h.keep (KeepIn.refl _ _ _) h1 h2

theorem IsTys.get {w : World} {L B g : Nat} : ∀ {ts : List Ty} {o : Nat} (j : Nat) (hj : j < ts.length), IsTys w L B ts g o →
    ∃ v0 v1 v2 v3, w.cell? ⟨g, o + j * 4, none⟩ = some v0 ∧ w.cell? ⟨g, o + j * 4 + 1, none⟩ = some v1 ∧ w.cell? ⟨g, o + j * 4 + 2, none⟩ = some v2 ∧ w.cell? ⟨g, o + j * 4 + 3, none⟩ = some v3 ∧ IsTy w L B ts[j] (.agg #[v0, v1, v2, v3])
  | [], o, j, hj, _ => absurd hj (by simp)
  | t :: ts, o, 0, hj, h => by
    unfold IsTys at h
    obtain ⟨⟨v0, v1, v2, v3, c0, c1, c2, c3, ht⟩, hs⟩ := h
    exact ⟨v0, v1, v2, v3, by simpa using c0, by simpa using c1, by simpa using c2, by simpa using c3, ht⟩
  | t :: ts, o, j + 1, hj, h => by
    unfold IsTys at h
    obtain ⟨_, hs⟩ := h
    have := IsTys.get j (by simpa using hj) hs
    have e : o + (j + 1) * 4 = o + 4 + j * 4 := by omega
    rw [e]
    simpa using this
theorem IsTys.of_all {w : World} {L B g : Nat} : ∀ {ts : List Ty} {o : Nat}, (∀ (j : Nat) (hj : j < ts.length), ∃ v0 v1 v2 v3, w.cell? ⟨g, o + j * 4, none⟩ = some v0 ∧ w.cell? ⟨g, o + j * 4 + 1, none⟩ = some v1 ∧ w.cell? ⟨g, o + j * 4 + 2, none⟩ = some v2 ∧ w.cell? ⟨g, o + j * 4 + 3, none⟩ = some v3 ∧ IsTy w L B ts[j] (.agg #[v0, v1, v2, v3])) → IsTys w L B ts g o
  | [], o, _ => by unfold IsTys; trivial
  | t :: ts, o, h => by
    unfold IsTys
    obtain ⟨v0, v1, v2, v3, c0, c1, c2, c3, ht⟩ := h 0 (by simp)
    refine ⟨⟨v0, v1, v2, v3, by simpa using c0, by simpa using c1, by simpa using c2, by simpa using c3, ht⟩, IsTys.of_all fun j hj => ?_⟩
    have := h (j + 1) (by simpa using hj)
    have e : o + 4 + j * 4 = o + (j + 1) * 4 := by omega
    rw [e]
    simpa using this

/-- A slice of terms. -/
def IsTyl (w : World) (L B : Nat) (ts : List Ty) (v : Value) : Prop :=
  ∃ A c, v = .slice A ts.length c ∧ ts.length ≤ c ∧ (ts.length = 0 ∨ ∃ g o, A = some ⟨g, o, none⟩ ∧ L ≤ g ∧ g < B ∧ IsTys w L B ts g o)
theorem IsTy.args_ {w : World} {L B : Nat} {t : Ty} {v : Value} (h : IsTy w L B t v) :
    ∃ A c, v = .agg #[.int .i64 t.kind, .string t.name, .int .i64 t.index, .slice A t.args.length c] ∧ IsTyl w L B t.args (.slice A t.args.length c) := by
  cases t
  unfold IsTy at h
  obtain ⟨A, c, hv, hc, h⟩ := h
  exact ⟨A, c, hv, A, c, rfl, hc, h⟩
theorem IsTy.mk_ {w : World} {L B : Nat} {k ix : Int} {nm : ByteArray} {ts : List Ty} {v : Value} (h : IsTyl w L B ts v) :
    IsTy w L B ⟨k, nm, ix, ts⟩ (.agg #[.int .i64 k, .string nm, .int .i64 ix, v]) := by
  obtain ⟨A, c, rfl, hc, h⟩ := h
  unfold IsTy
  exact ⟨A, c, rfl, hc, h⟩
theorem IsTyl.nil {w : World} {L B : Nat} (A : Option Addr) (c : Nat) : IsTyl w L B [] (.slice A 0 c) := ⟨A, c, rfl, Nat.zero_le _, .inl rfl⟩
theorem IsTyl.keep {w w' : World} {L B L' B' : Nat} {ts : List Ty} {v : Value} (h : IsTyl w L B ts v) (hk : KeepIn L B w w') (h1 : L' ≤ L) (h2 : B ≤ B') : IsTyl w' L' B' ts v := by
  obtain ⟨A, c, hv, hc, h⟩ := h
  refine ⟨A, c, hv, hc, ?_⟩
  rcases h with h | ⟨g, o, hA, hl, hb, h⟩
  · exact .inl h
  · exact .inr ⟨g, o, hA, by omega, by omega, IsTys.keep hk h1 h2 hl hb h⟩
/-- The element j of a slice of terms, in a world that has kept it. -/
theorem IsTyl.at_ {w w' : World} {L B : Nat} {ts : List Ty} {A : Option Addr} {n c : Nat} (h : IsTyl w L B ts (.slice A n c)) (hk : KeepIn L B w w') {j : Nat} (hj : j < n) :
    ∃ g o A' c', ∃ hj' : j < ts.length, A = some ⟨g, o, none⟩ ∧ L ≤ g ∧ g < B ∧ w'.cell? ⟨g, o + j * 4, none⟩ = some (.int .i64 ts[j].kind) ∧ w'.cell? ⟨g, o + j * 4 + 1, none⟩ = some (.string ts[j].name) ∧
      w'.cell? ⟨g, o + j * 4 + 2, none⟩ = some (.int .i64 ts[j].index) ∧ w'.cell? ⟨g, o + j * 4 + 3, none⟩ = some (.slice A' ts[j].args.length c') ∧
      IsTy w' L B ts[j] (.agg #[.int .i64 ts[j].kind, .string ts[j].name, .int .i64 ts[j].index, .slice A' ts[j].args.length c']) := by
  obtain ⟨A', c', hv, _, hh⟩ := h.keep hk (Nat.le_refl _) (Nat.le_refl _)
  clear h
  simp only [Value.slice.injEq] at hv
  obtain ⟨rfl, rfl, rfl⟩ := hv
  rcases hh with h | ⟨g, o, rfl, hl, hb, h⟩
  · omega
  · obtain ⟨v0, v1, v2, v3, c0, c1, c2, c3, ht⟩ := IsTys.get j hj h
    obtain ⟨A', c', e, _⟩ := ht.args_
    simp only [Value.agg.injEq, Array.mk.injEq, List.cons.injEq, and_true] at e
    obtain ⟨rfl, rfl, rfl, rfl⟩ := e
    exact ⟨g, o, A', c', hj, rfl, hl, hb, c0, c1, c2, c3, ht⟩
theorem IsTyl.len_ {w : World} {L B : Nat} {ts : List Ty} {A : Option Addr} {n c : Nat} (h : IsTyl w L B ts (.slice A n c)) : ts.length = n := by
  obtain ⟨A', c', hv, _⟩ := h
  simp only [Value.slice.injEq] at hv
  exact hv.2.1.symm

mutual
def Ty.size : Ty → Nat
  | ⟨_, _, _, args⟩ => 1 + Ty.sizes args
def Ty.sizes : List Ty → Nat
  | [] => 0
  | t :: ts => Ty.size t + Ty.sizes ts
 end
theorem Ty.size_eq (t : Ty) : t.size = 1 + Ty.sizes t.args := by cases t; rw [Ty.size]
theorem Ty.size_get {ts : List Ty} (j : Nat) (hj : j < ts.length) : Ty.size ts[j] ≤ Ty.sizes ts := by
  induction ts generalizing j with
  | nil => simp at hj
  | cons t ts ih =>
    unfold Ty.sizes
    rcases j with _ | j
    · simp
    · have := ih j (by simpa using hj)
      simp
      omega
theorem Ty.sizes_take {ts : List Ty} (j : Nat) (hj : j < ts.length) : Ty.sizes (ts.take (j + 1)) = Ty.sizes (ts.take j) + Ty.size ts[j] := by
  induction ts generalizing j with
  | nil => simp at hj
  | cons t ts ih =>
    rcases j with _ | j
    · simp [Ty.sizes]
    · have := ih j (by simpa using hj)
      simp [Ty.sizes] at this ⊢
      omega
theorem Ty.size_pos (t : Ty) : 1 ≤ t.size := by cases t; unfold Ty.size; omega
theorem Ty.len_le (ts : List Ty) : ts.length ≤ Ty.sizes ts := by
  induction ts with
  | nil => simp
  | cons t ts ih => have := Ty.size_pos t; unfold Ty.sizes; simp; omega
theorem Ty.sizes_take_le (ts : List Ty) (j : Nat) : Ty.sizes (ts.take j) ≤ Ty.sizes ts := by
  induction ts generalizing j with
  | nil => simp
  | cons t ts ih =>
    rcases j with _ | j
    · simp [Ty.sizes]
    · have := ih j
      simp [Ty.sizes]
      omega

theorem ret_int {k : IntKind} {a b : Int} (h : a = b) : Ending.returned (.int k a) = .returned (.int k b) := by rw [h]
theorem ret_bool {a b : Bool} (h : a = b) : Ending.returned (.bool a) = .returned (.bool b) := by rw [h]
end Go.Proofs.YtdbflfakocaapaaDoor
