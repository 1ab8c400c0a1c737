/- Terms (api.Type) as a Lean type, and what it means that a value of the program reads as such a term in a world. No statement of the seat is proved here.
  What the functions of chapter 2 compute, in plain Lean: measures, free variables, plainness, well-formedness.
  Words for memory: what a slice reads as, and append onto a row of the call's own.
  Plain: what a world keeps of the cells of a boxed term.
  Contracts of TermSize, Size, TermDepth, Depth. -/
import Derived.Test.YtdjldmpfginkdaaGreatDoorRows
import Derived.WalkKit
import Derived.WalkSpells
import Derived.WalkLawsBesides
import Derived.Lib.Hide
import Derived.Handy
import Derived.Maps.AppendAt
import Derived.Deep.AppendLies
import Derived.Deep.RegionLaw
import Derived.Deep.RegionHeld3
import Derived.Deep.DrawnRows
import Derived.OwnWalk
namespace Go.Proofs.YtdjldmpfginkdaaGreatDoor
open Go.RowKit

structure Ty where
  kind : Int
  name : ByteArray
  index : Int
  args : List Ty

mutual
def IsTy (w : World) (L B : Nat) : Ty → Value → Prop
  | ⟨k, nm, ix, args⟩, v => ∃ A c, v = .agg #[.int .i64 k, .string nm, .int .i64 ix, .slice A args.length c] ∧ args.length ≤ c ∧
      (args.length = 0 ∨ ∃ g o, A = some ⟨g, o, none⟩ ∧ L ≤ g ∧ g < B ∧ IsTys w L B args g o)
def IsTys (w : World) (L B : Nat) : List Ty → Nat → Nat → Prop
  | [], _, _ => True
  | t :: ts, g, o => (∃ v0 v1 v2 v3, w.cell? ⟨g, o, none⟩ = some v0 ∧ w.cell? ⟨g, o + 1, none⟩ = some v1 ∧ w.cell? ⟨g, o + 2, none⟩ = some v2 ∧ w.cell? ⟨g, o + 3, none⟩ = some v3 ∧ IsTy w L B t (.agg #[v0, v1, v2, v3])) ∧ IsTys w L B ts g (o + 4)
 end

def KeepIn (L B : Nat) (w w' : World) : Prop := ∀ b, L ≤ b → b < B → w'.heap[b]? = w.heap[b]?

theorem KeepIn.cell {L B : Nat} {w w' : World} (h : KeepIn L B w w') {a : Addr} (h1 : L ≤ a.block) (h2 : a.block < B) : w'.cell? a = w.cell? a :=
  World.cell?_of_block (w := w) (h a.block h1 h2)
theorem KeepIn.of_below {L B C : Nat} {w w' : World} (h : Below C w w') (hB : B ≤ C) : KeepIn L B w w' := fun b _ hb => h.block b (by omega)
theorem KeepIn.alloc {L B : Nat} {w : World} (o : Obj) (hB : B ≤ w.heap.size) : KeepIn L B w (w.alloc o) := fun b _ hb => Below.heap_alloc _ _ _ (by omega)
theorem KeepIn.refl (L B : Nat) (w : World) : KeepIn L B w w := fun _ _ _ => rfl

mutual
theorem IsTy.keep {w w' : World} {L B L' B' : Nat} (hk : KeepIn L B w w') (h1 : L' ≤ L) (h2 : B ≤ B') : ∀ {t : Ty} {v : Value}, IsTy w L B t v → IsTy w' L' B' t v
  | ⟨k, nm, ix, args⟩, v => by
    intro h
    unfold IsTy at h ⊢
    obtain ⟨A, c, hv, hc, h⟩ := h
    refine ⟨A, c, hv, hc, ?_⟩
    rcases h with h | ⟨g, o, hA, hl, hb, h⟩
    · exact .inl h
    · exact .inr ⟨g, o, hA, by omega, by omega, IsTys.keep hk h1 h2 hl hb h⟩
theorem IsTys.keep {w w' : World} {L B L' B' : Nat} {g : Nat} (hk : KeepIn L B w w') (h1 : L' ≤ L) (h2 : B ≤ B') (hg : L ≤ g) (hg2 : g < B) : ∀ {ts : List Ty} {o : Nat}, IsTys w L B ts g o → IsTys w' L' B' ts g o
  | [], o => by intro _; unfold IsTys; trivial
  | t :: ts, o => by
    intro h
    unfold IsTys at h ⊢
    obtain ⟨⟨v0, v1, v2, v3, c0, c1, c2, c3, ht⟩, hs⟩ := h
    refine ⟨⟨v0, v1, v2, v3, ?_, ?_, ?_, ?_, IsTy.keep hk h1 h2 ht⟩, IsTys.keep hk h1 h2 hg hg2 hs⟩ <;> rw [hk.cell (by exact hg) (by exact hg2)] <;> assumption
 end

theorem IsTy.below {w w' : World} {L B C : Nat} {t : Ty} {v : Value} (h : IsTy w L B t v) (hb : Below C w w') (hB : B ≤ C) : IsTy w' L B t v :=
  h.keep (KeepIn.of_below hb hB) (Nat.le_refl _) (Nat.le_refl _)
theorem IsTy.more {w : World} {L B L' B' : Nat} {t : Ty} {v : Value} (h : IsTy w L B t v) (h1 : L' ≤ L) (h2 : B ≤ B') : IsTy w L' B' t v :=
  h.keep (KeepIn.refl _ _ _) h1 h2

theorem IsTys.get {w : World} {L B g : Nat} : ∀ {ts : List Ty} {o : Nat} (j : Nat) (hj : j < ts.length), IsTys w L B ts g o →
    ∃ v0 v1 v2 v3, w.cell? ⟨g, o + j * 4, none⟩ = some v0 ∧ w.cell? ⟨g, o + j * 4 + 1, none⟩ = some v1 ∧ w.cell? ⟨g, o + j * 4 + 2, none⟩ = some v2 ∧ w.cell? ⟨g, o + j * 4 + 3, none⟩ = some v3 ∧ IsTy w L B ts[j] (.agg #[v0, v1, v2, v3])
  | [], o, j, hj, _ => absurd hj (by simp)
  | t :: ts, o, 0, hj, h => by
    unfold IsTys at h
    obtain ⟨⟨v0, v1, v2, v3, c0, c1, c2, c3, ht⟩, hs⟩ := h
    exact ⟨v0, v1, v2, v3, by simpa using c0, by simpa using c1, by simpa using c2, by simpa using c3, ht⟩
  | t :: ts, o, j + 1, hj, h => by
    unfold IsTys at h
    obtain ⟨_, hs⟩ := h
    have := IsTys.get j (by simpa using hj) hs
    have e : o + (j + 1) * 4 = o + 4 + j * 4 := by omega
    rw [e]
    simpa using this
theorem IsTys.of_all {w : World} {L B g : Nat} : ∀ {ts : List Ty} {o : Nat}, (∀ (j : Nat) (hj : j < ts.length), ∃ v0 v1 v2 v3, w.cell? ⟨g, o + j * 4, none⟩ = some v0 ∧ w.cell? ⟨g, o + j * 4 + 1, none⟩ = some v1 ∧ w.cell? ⟨g, o + j * 4 + 2, none⟩ = some v2 ∧ w.cell? ⟨g, o + j * 4 + 3, none⟩ = some v3 ∧ IsTy w L B ts[j] (.agg #[v0, v1, v2, v3])) → IsTys w L B ts g o
  | [], o, _ => by unfold IsTys; trivial
  | t :: ts, o, h => by
    unfold IsTys
    obtain ⟨v0, v1, v2, v3, c0, c1, c2, c3, ht⟩ := h 0 (by simp)
    refine ⟨⟨v0, v1, v2, v3, by simpa using c0, by simpa using c1, by simpa using c2, by simpa using c3, ht⟩, IsTys.of_all fun j hj => ?_⟩
    have := h (j + 1) (by simpa using hj)
    have e : o + 4 + j * 4 = o + (j + 1) * 4 := by omega
    rw [e]
    simpa using this

/-- A slice of terms. -/
def IsTyl (w : World) (L B : Nat) (ts : List Ty) (v : Value) : Prop :=
  ∃ A c, v = .slice A ts.length c ∧ ts.length ≤ c ∧ (ts.length = 0 ∨ ∃ g o, A = some ⟨g, o, none⟩ ∧ L ≤ g ∧ g < B ∧ IsTys w L B ts g o)
theorem IsTy.args_ {w : World} {L B : Nat} {t : Ty} {v : Value} (h : IsTy w L B t v) :
    ∃ A c, v = .agg #[.int .i64 t.kind, .string t.name, .int .i64 t.index, .slice A t.args.length c] ∧ IsTyl w L B t.args (.slice A t.args.length c) := by
  cases t
  unfold IsTy at h
  obtain ⟨A, c, hv, hc, h⟩ := h
  exact ⟨A, c, hv, A, c, rfl, hc, h⟩
theorem IsTy.mk_ {w : World} {L B : Nat} {k ix : Int} {nm : ByteArray} {ts : List Ty} {v : Value} (h : IsTyl w L B ts v) :
    IsTy w L B ⟨k, nm, ix, ts⟩ (.agg #[.int .i64 k, .string nm, .int .i64 ix, v]) := by
  obtain ⟨A, c, rfl, hc, h⟩ := h
  unfold IsTy
  exact ⟨A, c, rfl, hc, h⟩
theorem IsTyl.nil {w : World} {L B : Nat} (A : Option Addr) (c : Nat) : IsTyl w L B [] (.slice A 0 c) := ⟨A, c, rfl, Nat.zero_le _, .inl rfl⟩
theorem IsTyl.keep {w w' : World} {L B L' B' : Nat} {ts : List Ty} {v : Value} (h : IsTyl w L B ts v) (hk : KeepIn L B w w') (h1 : L' ≤ L) (h2 : B ≤ B') : IsTyl w' L' B' ts v := by
  obtain ⟨A, c, hv, hc, h⟩ := h
  refine ⟨A, c, hv, hc, ?_⟩
  rcases h with h | ⟨g, o, hA, hl, hb, h⟩
  · exact .inl h
  · exact .inr ⟨g, o, hA, by omega, by omega, IsTys.keep hk h1 h2 hl hb h⟩
/-- The element j of a slice of terms, in a world that has kept it. -/
theorem IsTyl.at_ {w w' : World} {L B : Nat} {ts : List Ty} {A : Option Addr} {n c : Nat} (h : IsTyl w L B ts (.slice A n c)) (hk : KeepIn L B w w') {j : Nat} (hj : j < n) :
    ∃ g o A' c', ∃ hj' : j < ts.length, A = some ⟨g, o, none⟩ ∧ L ≤ g ∧ g < B ∧ w'.cell? ⟨g, o + j * 4, none⟩ = some (.int .i64 ts[j].kind) ∧ w'.cell? ⟨g, o + j * 4 + 1, none⟩ = some (.string ts[j].name) ∧
      w'.cell? ⟨g, o + j * 4 + 2, none⟩ = some (.int .i64 ts[j].index) ∧ w'.cell? ⟨g, o + j * 4 + 3, none⟩ = some (.slice A' ts[j].args.length c') ∧
      IsTy w' L B ts[j] (.agg #[.int .i64 ts[j].kind, .string ts[j].name, .int .i64 ts[j].index, .slice A' ts[j].args.length c']) := by
  obtain ⟨A', c', hv, _, hh⟩ := h.keep hk (Nat.le_refl _) (Nat.le_refl _)
  clear h
  simp only [Value.slice.injEq] at hv
  obtain ⟨rfl, rfl, rfl⟩ := hv
  rcases hh with h | ⟨g, o, rfl, hl, hb, h⟩
  · omega
  · obtain ⟨v0, v1, v2, v3, c0, c1, c2, c3, ht⟩ := IsTys.get j hj h
    obtain ⟨A', c', e, _⟩ := ht.args_
    simp only [Value.agg.injEq, Array.mk.injEq, List.cons.injEq, and_true] at e
    obtain ⟨rfl, rfl, rfl, rfl⟩ := e
    exact ⟨g, o, A', c', hj, rfl, hl, hb, c0, c1, c2, c3, ht⟩
theorem IsTyl.len_ {w : World} {L B : Nat} {ts : List Ty} {A : Option Addr} {n c : Nat} (h : IsTyl w L B ts (.slice A n c)) : ts.length = n := by
  obtain ⟨A', c', hv, _⟩ := h
  simp only [Value.slice.injEq] at hv
  exact hv.2.1.symm

mutual
def Ty.size : Ty → Nat
  | ⟨_, _, _, args⟩ => 1 + Ty.sizes args
def Ty.sizes : List Ty → Nat
  | [] => 0
  | t :: ts => Ty.size t + Ty.sizes ts
 end
theorem Ty.size_eq (t : Ty) : t.size = 1 + Ty.sizes t.args := by cases t; rw [Ty.size]
theorem Ty.size_get {ts : List Ty} (j : Nat) (hj : j < ts.length) : Ty.size ts[j] ≤ Ty.sizes ts := by
  induction ts generalizing j with
  | nil => simp at hj
  | cons t ts ih =>
    unfold Ty.sizes
    rcases j with _ | j
    · simp
    · have := ih j (by simpa using hj)
      simp
      omega
theorem Ty.sizes_take {ts : List Ty} (j : Nat) (hj : j < ts.length) : Ty.sizes (ts.take (j + 1)) = Ty.sizes (ts.take j) + Ty.size ts[j] := by
  induction ts generalizing j with
  | nil => simp at hj
  | cons t ts ih =>
    rcases j with _ | j
    · simp [Ty.sizes]
    · have := ih j (by simpa using hj)
      simp [Ty.sizes] at this ⊢
      omega
theorem Ty.size_pos (t : Ty) : 1 ≤ t.size := by cases t; unfold Ty.size; omega
theorem Ty.len_le (ts : List Ty) : ts.length ≤ Ty.sizes ts := by
  induction ts with
  | nil => simp
  | cons t ts ih => have := Ty.size_pos t; unfold Ty.sizes; simp; omega
theorem Ty.sizes_take_le (ts : List Ty) (j : Nat) : Ty.sizes (ts.take j) ≤ Ty.sizes ts := by
  induction ts generalizing j with
  | nil => simp
  | cons t ts ih =>
    rcases j with _ | j
    · simp [Ty.sizes]
    · have := ih j
      simp [Ty.sizes]
      omega

theorem ret_int {k : IntKind} {a b : Int} (h : a = b) : Ending.returned (.int k a) = .returned (.int k b) := by rw [h]
theorem ret_bool {a b : Bool} (h : a = b) : Ending.returned (.bool a) = .returned (.bool b) := by rw [h]
end Go.Proofs.YtdjldmpfginkdaaGreatDoor
namespace Go.Proofs.YtdjldmpfginkdaaGreatDoor
open Go.RowKit

mutual
def Ty.depth : Ty → Nat
  | ⟨_, _, _, args⟩ => Ty.depths args + 1
def Ty.depths : List Ty → Nat
  | [] => 0
  | t :: ts => max (Ty.depth t) (Ty.depths ts)
 end
theorem Ty.depth_eq (t : Ty) : t.depth = Ty.depths t.args + 1 := by cases t; rw [Ty.depth]
theorem Ty.depths_take {ts : List Ty} (j : Nat) (hj : j < ts.length) : Ty.depths (ts.take (j + 1)) = max (Ty.depths (ts.take j)) (Ty.depth ts[j]) := by
  induction ts generalizing j with
  | nil => simp at hj
  | cons t ts ih =>
    rcases j with _ | j
    · simp [Ty.depths]
    · have := ih j (by simpa using hj)
      simp [Ty.depths] at this ⊢
      omega
mutual
theorem Ty.depth_le : ∀ t : Ty, t.depth ≤ t.size
  | ⟨_, _, _, args⟩ => by unfold Ty.depth Ty.size; have := Ty.depths_le args; omega
theorem Ty.depths_le : ∀ ts : List Ty, Ty.depths ts ≤ Ty.sizes ts
  | [] => by simp [Ty.depths]
  | t :: ts => by unfold Ty.depths Ty.sizes; have := Ty.depth_le t; have := Ty.depths_le ts; omega
 end

/-- The numbers of a term are numbers of Go's int. -/
def inI (n : Int) : Prop := -9223372036854775808 ≤ n ∧ n ≤ 9223372036854775807
mutual
def Ty.ok : Ty → Prop
  | ⟨k, _, ix, args⟩ => inI k ∧ inI ix ∧ Ty.oks args
def Ty.oks : List Ty → Prop
  | [] => True
  | t :: ts => Ty.ok t ∧ Ty.oks ts
 end
theorem Ty.ok_eq (t : Ty) : t.ok = (inI t.kind ∧ inI t.index ∧ Ty.oks t.args) := by cases t; rw [Ty.ok]
theorem Ty.ok_get {ts : List Ty} (h : Ty.oks ts) (j : Nat) (hj : j < ts.length) : Ty.ok ts[j] := by
  induction ts generalizing j with
  | nil => simp at hj
  | cons t ts ih =>
    unfold Ty.oks at h
    rcases j with _ | j
    · exact h.1
    · exact ih h.2 j (by simpa using hj)
theorem Ty.oks_of {ts : List Ty} (h : ∀ t ∈ ts, Ty.ok t) : Ty.oks ts := by
  induction ts with
  | nil => unfold Ty.oks; trivial
  | cons t ts ih => unfold Ty.oks; exact ⟨h t (by simp), ih fun x hx => h x (by simp [hx])⟩

def bindI (k : Int) (i : Nat) : Int := if k = 6 ∧ i = 1 then 1 else 0
theorem bindI_le (k : Int) (i : Nat) : 0 ≤ bindI k i ∧ bindI k i ≤ 1 := by unfold bindI; split <;> omega

mutual
def Ty.closed : Ty → Int → Bool
  | ⟨k, _, ix, args⟩, d => !(k == 5 && decide (d ≤ ix)) && Ty.closeds k args 0 d
def Ty.closeds (k : Int) : List Ty → Nat → Int → Bool
  | [], _, _ => true
  | t :: ts, i, d => Ty.closed t (d + bindI k i) && Ty.closeds k ts (i + 1) d
 end
theorem Ty.closed_eq (t : Ty) (d : Int) : t.closed d = (!(t.kind == 5 && decide (d ≤ t.index)) && Ty.closeds t.kind t.args 0 d) := by cases t; rw [Ty.closed]
theorem Ty.closeds_iff (k : Int) (ts : List Ty) (i : Nat) (d : Int) : Ty.closeds k ts i d = true ↔ ∀ (j : Nat) (hj : j < ts.length), ts[j].closed (d + bindI k (i + j)) = true := by
  induction ts generalizing i with
  | nil => simp [Ty.closeds]
  | cons t ts ih =>
    rw [Ty.closeds, Bool.and_eq_true, ih]
    constructor
    · rintro ⟨h1, h2⟩ j hj
      rcases j with _ | j
      · simpa using h1
      · have := h2 j (by simpa using hj)
        simpa [Nat.add_assoc, Nat.add_comm 1 j] using this
    · intro h
      refine ⟨h 0 (by simp), fun j hj => ?_⟩
      have := h (j + 1) (by simpa using hj)
      simpa [Nat.add_assoc, Nat.add_comm 1 j] using this

mutual
def Ty.fvs : Ty → Int → List Int
  | ⟨k, _, ix, args⟩, d => (if k = 5 ∧ d ≤ ix then [ix - d] else []) ++ Ty.fvss k args 0 d
def Ty.fvss (k : Int) : List Ty → Nat → Int → List Int
  | [], _, _ => []
  | t :: ts, i, d => Ty.fvs t (d + bindI k i) ++ Ty.fvss k ts (i + 1) d
 end
theorem Ty.fvs_eq (t : Ty) (d : Int) : t.fvs d = (if t.kind = 5 ∧ d ≤ t.index then [t.index - d] else []) ++ Ty.fvss t.kind t.args 0 d := by cases t; rw [Ty.fvs]
theorem Ty.fvss_take (k : Int) (ts : List Ty) (i : Nat) (d : Int) (j : Nat) (hj : j < ts.length) : Ty.fvss k (ts.take (j + 1)) i d = Ty.fvss k (ts.take j) i d ++ Ty.fvs ts[j] (d + bindI k (i + j)) := by
  induction ts generalizing i j with
  | nil => simp at hj
  | cons t ts ih =>
    rcases j with _ | j
    · simp [Ty.fvss]
    · have := ih (i + 1) j (by simpa using hj)
      simp [Ty.fvss, this, Nat.add_assoc, Nat.add_comm 1 j]
mutual
theorem Ty.closed_fvs : ∀ (t : Ty) (d : Int), t.closed d = true ↔ t.fvs d = []
  | ⟨k, _, ix, args⟩, d => by
    rw [Ty.closed, Ty.fvs, Bool.and_eq_true, List.append_eq_nil_iff, Ty.closeds_fvss k args 0 d]
    by_cases h : k = 5 ∧ d ≤ ix
    · simp [h]
    · simp [h]
      omega
theorem Ty.closeds_fvss (k : Int) : ∀ (ts : List Ty) (i : Nat) (d : Int), Ty.closeds k ts i d = true ↔ Ty.fvss k ts i d = []
  | [], _, _ => by simp [Ty.closeds, Ty.fvss]
  | t :: ts, i, d => by rw [Ty.closeds, Ty.fvss, Bool.and_eq_true, List.append_eq_nil_iff, Ty.closed_fvs t, Ty.closeds_fvss k ts]
 end

/-- Insertion into a sorted set. -/
def ins (x : Int) : List Int → List Int
  | [] => [x]
  | y :: ys => if y < x then y :: ins x ys else if y = x then y :: ys else x :: y :: ys
def insAll (l xs : List Int) : List Int := xs.foldl (fun l x => ins x l) l
theorem insAll_append (l xs ys : List Int) : insAll l (xs ++ ys) = insAll (insAll l xs) ys := by simp [insAll]
theorem ins_len (x : Int) (l : List Int) : l.length ≤ (ins x l).length ∧ (ins x l).length ≤ l.length + 1 ∧ 1 ≤ (ins x l).length := by
  induction l with
  | nil => simp [ins]
  | cons y ys ih =>
    unfold ins
    split
    · simp; omega
    · split <;> simp
theorem insAll_len (l xs : List Int) : l.length ≤ (insAll l xs).length ∧ (insAll l xs).length ≤ l.length + xs.length := by
  induction xs generalizing l with
  | nil => simp [insAll]
  | cons x xs ih =>
    have h1 := ih (ins x l)
    have h2 := ins_len x l
    simp only [insAll, List.foldl_cons, List.length_cons] at h1 ⊢
    omega
theorem insAll_nil (xs : List Int) : insAll [] xs = [] ↔ xs = [] := by
  rcases xs with _ | ⟨x, xs⟩
  · simp [insAll]
  · have h := insAll_len (ins x []) xs
    have h2 := ins_len x []
    constructor
    · intro e
      have : insAll [] (x :: xs) = insAll (ins x []) xs := rfl
      rw [this] at e
      rw [e] at h
      simp at h
      rw [h] at h2
      simp at h2
    · intro e; cases e
theorem ins_mem (x y : Int) (l : List Int) : y ∈ ins x l ↔ y = x ∨ y ∈ l := by
  induction l with
  | nil => simp [ins]
  | cons z zs ih =>
    unfold ins
    split
    · simp [ih]; constructor <;> (rintro (h | h | h) <;> simp [h])
    · split
      · rename_i h; subst h; simp
      · simp
theorem ins_sorted (x : Int) (l : List Int) (h : l.Pairwise (· < ·)) : (ins x l).Pairwise (· < ·) := by
  induction l with
  | nil => simp [ins]
  | cons z zs ih =>
    obtain ⟨h1, h2⟩ := List.pairwise_cons.1 h
    unfold ins
    split
    · refine List.pairwise_cons.2 ⟨fun y hy => ?_, ih h2⟩
      rcases (ins_mem x y zs).1 hy with e | e
      · omega
      · exact h1 y e
    · split
      · exact h
      · refine List.pairwise_cons.2 ⟨fun y hy => ?_, h⟩
        rcases List.mem_cons.1 hy with e | e
        · omega
        · have := h1 y e; omega
theorem insAll_sorted (l xs : List Int) (h : l.Pairwise (· < ·)) : (insAll l xs).Pairwise (· < ·) := by
  induction xs generalizing l with
  | nil => exact h
  | cons x xs ih => exact ih _ (ins_sorted x l h)
theorem insAll_mem (y : Int) (l xs : List Int) : y ∈ insAll l xs ↔ y ∈ l ∨ y ∈ xs := by
  induction xs generalizing l with
  | nil => simp [insAll]
  | cons x xs ih =>
    have : insAll l (x :: xs) = insAll (ins x l) xs := rfl
    rw [this, ih, ins_mem, List.mem_cons]
    constructor
    · rintro ((h | h) | h)
      · exact .inr (.inl h)
      · exact .inl h
      · exact .inr (.inr h)
    · rintro (h | h | h)
      · exact .inl (.inr h)
      · exact .inl (.inl h)
      · exact .inr h
/-- Where x goes: behind the smaller ones. -/
theorem ins_split (x : Int) (l : List Int) (h : l.Pairwise (· < ·)) (hx : x ∉ l) : ins x l = l.take (l.countP (· < x)) ++ x :: l.drop (l.countP (· < x)) := by
  induction l with
  | nil => simp [ins]
  | cons z zs ih =>
    obtain ⟨h1, h2⟩ := List.pairwise_cons.1 h
    have hx' : ¬ x = z ∧ x ∉ zs := ⟨fun e => hx (by simp [e]), fun e => hx (by simp [e])⟩
    unfold ins
    split
    · rename_i hz
      rw [List.countP_cons_of_pos (by simpa using hz), ih h2 hx'.2]
      simp
    · rename_i hz
      rw [if_neg (fun e => hx'.1 e.symm)]
      have : (z :: zs).countP (· < x) = 0 := by
        rw [List.countP_eq_zero]
        intro y hy
        rcases List.mem_cons.1 hy with e | e
        · simp; omega
        · have := h1 y e; simp; omega
      rw [this]
      simp
theorem ins_mem_self (x : Int) (l : List Int) (h : l.Pairwise (· < ·)) (hx : x ∈ l) : ins x l = l := by
  induction l with
  | nil => simp at hx
  | cons z zs ih =>
    obtain ⟨h1, h2⟩ := List.pairwise_cons.1 h
    unfold ins
    rcases List.mem_cons.1 hx with e | e
    · subst e; simp
    · have := h1 x e
      rw [if_pos this, ih h2 e]

mutual
def Ty.plain : Ty → Bool
  | ⟨k, nm, ix, args⟩ => k == 5 || Ty.closed ⟨k, nm, ix, args⟩ 0 || (k == 2 && Ty.plains args)
def Ty.plains : List Ty → Bool
  | [] => true
  | t :: ts => Ty.plain t && Ty.plains ts
 end
theorem Ty.plain_eq (t : Ty) : t.plain = (t.kind == 5 || t.closed 0 || (t.kind == 2 && Ty.plains t.args)) := by cases t; rw [Ty.plain]
theorem Ty.plains_iff (ts : List Ty) : Ty.plains ts = true ↔ ∀ (j : Nat) (hj : j < ts.length), ts[j].plain = true := by
  induction ts with
  | nil => simp [Ty.plains]
  | cons t ts ih =>
    rw [Ty.plains, Bool.and_eq_true, ih]
    constructor
    · rintro ⟨h1, h2⟩ j hj
      rcases j with _ | j
      · exact h1
      · exact h2 j (by simpa using hj)
    · intro h
      exact ⟨h 0 (by simp), fun j hj => h (j + 1) (by simpa using hj)⟩

def isLet (c : Int) : Bool := decide (97 ≤ c ∧ c ≤ 122 ∨ 65 ≤ c ∧ c ≤ 90)
def isDig (c : Int) : Bool := decide (48 ≤ c ∧ c ≤ 57)
def isWB (c : Int) : Bool := isLet c || isDig c || c == 95 || c == 45
def byteI (c : UInt8) : Int := (c.toNat : Int)
def okB (c : Int) : Bool := isWB c && c != 45
def everyTo (s : ByteArray) (j : Nat) : Bool := (s.data.toList.take j).all fun c => okB (byteI c)
def everyB (s : ByteArray) : Bool := everyTo s s.size
theorem everyTo_zero (s : ByteArray) : everyTo s 0 = true := by simp [everyTo]
theorem everyTo_succ (s : ByteArray) (j : Nat) (h : j < s.size) : everyTo s (j + 1) = (everyTo s j && okB (byteI s[j])) := by
  unfold everyTo
  rw [List.take_succ_eq_append_getElem (by simpa using h), List.all_append]
  simp
  rfl
theorem everyTo_false (s : ByteArray) (j : Nat) (h : j < s.size) (hf : okB (byteI s[j]) = false) : everyB s = false := by
  unfold everyB everyTo
  rw [List.all_eq_false]
  refine ⟨s[j], ?_, by simp [hf]⟩
  rw [List.take_of_length_le (by simp)]
  exact List.getElem_mem (l := s.data.toList) (by simpa using h)
def isIdent (s : ByteArray) : Bool := decide (1 ≤ s.size ∧ s.size ≤ 24) && isLet (byteI (s.data.getD 0 0)) && everyB s
def kwNames : List (List UInt8) := [[65, 110, 121], [78, 101, 118, 101, 114], [116, 117, 112, 108, 101], [117, 110, 105, 111, 110], [101, 120, 105, 115, 116, 115]]
def isKw (s : ByteArray) : Bool := kwNames.any fun k => s.toList == k
theorem toList_len (s : ByteArray) : s.toList.length = s.size := by
  rw [ByteArray.toList_eq]; simp
theorem toList_nil (s : ByteArray) : s.toList = [] ↔ s.size = 0 := by
  rw [← toList_len]; exact List.length_eq_zero_iff.symm
/-- The root of a term is well formed: what its kind asks. -/
def okKind (k : Int) (nm : ByteArray) (ix : Int) (args : List Ty) : Bool :=
  if k = 0 ∨ k = 1 then args.length == 0
  else if k = 2 then isIdent nm && !isKw nm && decide (args.length ≤ 6) && Ty.plains args
  else if k = 3 then decide (args.length ≤ 6)
  else if k = 4 then decide (2 ≤ args.length)
  else if k = 5 then args.length == 0 && decide (0 ≤ ix) && decide (ix ≤ 200)
  else if k = 6 then match args with
    | [a, _] => a.closed 0
    | _ => false
  else false
def okNode (k : Int) (nm : ByteArray) (ix : Int) (args : List Ty) : Bool := if (k != 2 && nm.size != 0) || (k != 5 && ix != 0) then false else okKind k nm ix args
mutual
def Ty.wf : Ty → Bool
  | ⟨k, nm, ix, args⟩ => okNode k nm ix args && Ty.wfs args
def Ty.wfs : List Ty → Bool
  | [] => true
  | t :: ts => Ty.wf t && Ty.wfs ts
 end
theorem Ty.wf_eq (t : Ty) : t.wf = (okNode t.kind t.name t.index t.args && Ty.wfs t.args) := by cases t; rw [Ty.wf]
theorem Ty.wfs_iff (ts : List Ty) : Ty.wfs ts = true ↔ ∀ (j : Nat) (hj : j < ts.length), ts[j].wf = true := by
  induction ts with
  | nil => simp [Ty.wfs]
  | cons t ts ih =>
    rw [Ty.wfs, Bool.and_eq_true, ih]
    constructor
    · rintro ⟨h1, h2⟩ j hj
      rcases j with _ | j
      · exact h1
      · exact h2 j (by simpa using hj)
    · intro h
      exact ⟨h 0 (by simp), fun j hj => h (j + 1) (by simpa using hj)⟩
def Ty.validate (t : Ty) : Int := if 200 < t.size ∨ 12 < t.depth then 4 else if t.wf then 0 else 2
end Go.Proofs.YtdjldmpfginkdaaGreatDoor
namespace Go.Proofs.YtdjldmpfginkdaaGreatDoor
open Go.RowKit

/-- The slice at A of n elements holds the cells xs, in a block below B. -/
def Rd (w : World) (B size : Nat) (xs : List Value) (A : Option Addr) (n : Nat) : Prop :=
  xs.length = n * size ∧ (n = 0 ∨ ∃ g o, A = some ⟨g, o, none⟩ ∧ g < B ∧ ∀ j u, xs[j]? = some u → w.cell? ⟨g, o + j, none⟩ = some u)
section
variable {w w' : World} {B B' size n : Nat} {xs : List Value} {A : Option Addr}
theorem Rd.nil : Rd w B size [] A 0 := ⟨by simp, .inl rfl⟩
theorem Rd.keep (h : Rd w B size xs A n) (hk : ∀ b, b < B → w'.heap[b]? = w.heap[b]?) (hB : B ≤ B') : Rd w' B' size xs A n := by
  obtain ⟨h1, h2⟩ := h
  refine ⟨h1, ?_⟩
  rcases h2 with h2 | ⟨g, o, hA, hg, hc⟩
  · exact .inl h2
  · exact .inr ⟨g, o, hA, by omega, fun j u hu => (World.cell?_of_block (w := w) (hk g hg)).trans (hc j u hu)⟩
theorem Rd.below {C : Nat} (h : Rd w B size xs A n) (hb : Below C w w') (hB : B ≤ C) : Rd w' B size xs A n := h.keep (fun b hb' => hb.block b (by omega)) (Nat.le_refl _)
theorem Rd.more (h : Rd w B size xs A n) (hB : B ≤ B') : Rd w B' size xs A n := h.keep (fun _ _ => rfl) hB
theorem Rd.drew (h : Rd w B size xs A n) : Rd w.drew B size xs A n := h
theorem Rd.at_ (h : Rd w B size xs A n) {j : Nat} (hj : j < n * size) : ∃ g o, ∃ hj' : j < xs.length, A = some ⟨g, o, none⟩ ∧ g < B ∧ w.cell? ⟨g, o + j, none⟩ = some xs[j] := by
  obtain ⟨h1, h2⟩ := h
  rcases h2 with h2 | ⟨g, o, hA, hg, hc⟩
  · subst h2; omega
  · exact ⟨g, o, by omega, hA, hg, hc j _ (List.getElem?_eq_getElem (by omega))⟩
theorem Rd.take_ (h : Rd w B size xs A n) {k : Nat} (hk : k ≤ n) : Rd w B size (xs.take (k * size)) A k := by
  obtain ⟨h1, h2⟩ := h
  have hm : k * size ≤ n * size := Nat.mul_le_mul_right _ hk
  refine ⟨by simp; omega, ?_⟩
  rcases h2 with h2 | ⟨g, o, hA, hg, hc⟩
  · exact .inl (by omega)
  · refine .inr ⟨g, o, hA, hg, fun j u hu => hc j u ?_⟩
    rw [List.getElem?_take] at hu
    split at hu
    · exact hu
    · cases hu
theorem Rd.drop_ (h : Rd w B size xs A n) {k cap : Nat} (hk : k ≤ n) (hc : n ≤ cap) : Rd w B size (xs.drop (k * size)) (if cap = k then A else A.map (·.add (k * size))) (n - k) := by
  obtain ⟨h1, h2⟩ := h
  refine ⟨by rw [List.length_drop, h1, Nat.sub_mul], ?_⟩
  rcases h2 with h2 | ⟨g, o, hA, hg, hcell⟩
  · exact .inl (by omega)
  · by_cases hkn : k = n
    · exact .inl (by omega)
    · refine .inr ⟨g, o + k * size, ?_, hg, fun j u hu => ?_⟩
      · rw [if_neg (by omega), hA]
        simp only [Option.map_some, Addr.add]
        split
        · rename_i h0; rw [h0]; rfl
        · rfl
      · rw [Nat.add_assoc]
        exact hcell _ u (by rw [← hu, List.getElem?_drop])
theorem Rd.own {base : Nat} {e : TypeId} {c : Nat} (h : w.ownsRow base e size (.slice A n c) n xs) : Rd w w.heap.size size xs A n := by
  refine ⟨h.1, ?_⟩
  rcases h.2 with ⟨hv, h0⟩ | ⟨g, cap, cur, hv, hb, hh, hnc, hcm, hcs, ht⟩
  · exact .inl h0
  · simp only [Value.slice.injEq] at hv
    have hlt : g < w.heap.size := by
      rcases Nat.lt_or_ge g w.heap.size with hl | hl
      · exact hl
      · rw [Array.getElem?_eq_none hl] at hh; cases hh
    refine .inr ⟨g, 0, hv.1, hlt, fun j u hu => ?_⟩
    have hv' : (Value.slice A n c) = .slice (some ⟨g, 0, none⟩) n cap := by simp [hv]
    rw [hv'] at h
    have := h.cells (g := g) rfl j u hu
    simpa [Addr.add_lit] using this
end

section
variable {P : Program} (w : World)
theorem run_append_rd (base : Nat) (t ty e : TypeId) (i : TypeInfo) (z : Value) (size bytes : Nat) (ht : P.underlying t = some (.slice e)) (hi : P.info? e = some i) (hz : i.zero = some z)
    (hsize : i.size = size) (hby : i.bytes = bytes) (hzs : z.cells.size = size) (hsz : 0 < size)
    (v : Value) (n : Nat) (xs : List Value) (hown : w.ownsRow base e size v n xs)
    (B : Nat) (A : Option Addr) (m c : Nat) (news : List Value) (hr : Rd w B size news A m) (h1 : ∀ u ∈ news, u.oneCell' = true)
    (hbytes : (n + m) * (bytes + 1) ≤ 140737488355328) (hbase : base ≤ w.heap.size) :
    ∃ v' w', (Builtin.append_ #[t, t] ty #[v, .slice A m c]).run P w = .ok v' w' ∧ w'.ownsRow base e size v' (n + m) (xs ++ news) ∧ w.grownBy w' v.ownBlock ∧
      (v'.ownBlock = v.ownBlock ∨ v'.ownBlock = some w.heap.size) := by
  have hb1 : n + m ≤ (n + m) * (bytes + 1) := Nat.le_mul_of_pos_right _ (by omega)
  have hb2 : (n + m) * bytes ≤ (n + m) * (bytes + 1) := Nat.mul_le_mul_left _ (by omega)
  rcases A with _ | ad
  · have hm : m = 0 := by
      rcases hr.2 with h0 | ⟨g, o, hA, _⟩
      · exact h0
      · cases hA
    subst hm
    have hn : news = [] := List.eq_nil_of_length_eq_zero (by simpa using hr.1)
    subst hn
    refine ⟨v, w, ?_, by simpa using hown, ⟨rfl, rfl, rfl, Nat.le_refl _, fun _ _ _ => rfl⟩, .inl rfl⟩
    rcases hown.2 with ⟨rfl, rfl⟩ | ⟨g, cap, cur, rfl, _, _, hnc, _⟩
    · simp [Builtin.append_, run_underlying ht, sizeOf, typeInfo, hi, Builtin.lenOf, Builtin.firstCells]
    · simp [Builtin.append_, run_underlying ht, sizeOf, typeInfo, hi, Builtin.lenOf, Builtin.firstCells, hnc, storeCells]
  · have hcells : ∀ j u, news[j]? = some u → w.cell? (ad.add j) = some u := by
      intro j u hu
      rcases hr.2 with h0 | ⟨g, o, hA, _, hc⟩
      · subst h0
        have hn : news = [] := List.eq_nil_of_length_eq_zero (by simpa using hr.1)
        subst hn
        simp at hu
      · simp only [Option.some.injEq] at hA
        subst hA
        rw [Addr.add_lit]
        exact hc j u hu
    obtain ⟨v', w', hrun, h2, h3, _, h5⟩ := run_append_own_at (P := P) w base t ty e i z size bytes ht hi hz hsize hby hzs hsz v n xs hown ad m c news hr.1 hcells h1 (by simp only [maxLen]; omega) (by omega) hbase
    exact ⟨v', w', hrun, h2, h3, h5⟩
theorem wp_append_rd {o : Oper} {a : Act} {K : Act → World → Prop} {Q : Exit → Act → World → Prop} (s x : Operand) (t : TypeId)
    (ho : o.op = .call { callee := .builtin .append, args := #[s, x], argTypes := #[t, t] })
    (base : Nat) (e : TypeId) (i : TypeInfo) (z : Value) (size bytes : Nat) (ht : P.underlying t = some (.slice e)) (hi : P.info? e = some i) (hz : i.zero = some z)
    (hsize : i.size = size) (hby : i.bytes = bytes) (hzs : z.cells.size = size) (hsz : 0 < size)
    (v : Value) (n : Nat) (xs : List Value) (hs : a.eval s = v) (hown : w.ownsRow base e size v n xs)
    (B : Nat) (A : Option Addr) (m c : Nat) (news : List Value) (hx : a.eval x = .slice A m c) (hr : Rd w B size news A m) (h1 : ∀ u ∈ news, u.oneCell' = true)
    (hbytes : (n + m) * (bytes + 1) ≤ 140737488355328) (hbase : base ≤ w.heap.size)
    (h : ∀ v' w', w'.ownsRow base e size v' (n + m) (xs ++ news) → w.grownBy w' v.ownBlock → (v'.ownBlock = v.ownBlock ∨ v'.ownBlock = some w.heap.size) → K (a.put o.dst v') w') : o.wp P a w K Q := by
  obtain ⟨v', w', hrun, h2, h3, h4⟩ := run_append_rd (P := P) w base t o.type e i z size bytes ht hi hz hsize hby hzs hsz v n xs hown B A m c news hr h1 hbytes hbase
  unfold Oper.wp execOp
  simp only [ho, resolve, invoke, builtin, Sem.run_bind, Sem.run_pure, Result.andThen_ok, List.map_toArray, List.map_cons, List.map_nil, hs, hx, hrun]
  exact h v' w' h2 h3 h4
theorem wpList_append_rd {ops : Array Oper} {rest : List Oper} {o : Oper} {a : Act} {Q : Exit → Act → World → Prop} (hgd : o.guard = none) (s x : Operand) (t : TypeId)
    (ho : o.op = .call { callee := .builtin .append, args := #[s, x], argTypes := #[t, t] })
    (base : Nat) (e : TypeId) (i : TypeInfo) (z : Value) (size bytes : Nat) (ht : P.underlying t = some (.slice e)) (hi : P.info? e = some i) (hz : i.zero = some z)
    (hsize : i.size = size) (hby : i.bytes = bytes) (hzs : z.cells.size = size) (hsz : 0 < size)
    (v : Value) (n : Nat) (xs : List Value) (hs : a.eval s = v) (hown : w.ownsRow base e size v n xs)
    (B : Nat) (A : Option Addr) (m c : Nat) (news : List Value) (hx : a.eval x = .slice A m c) (hr : Rd w B size news A m) (h1 : ∀ u ∈ news, u.oneCell' = true)
    (hbytes : (n + m) * (bytes + 1) ≤ 140737488355328) (hbase : base ≤ w.heap.size)
    (h : ∀ v' w', w'.ownsRow base e size v' (n + m) (xs ++ news) → w.grownBy w' v.ownBlock → (v'.ownBlock = v.ownBlock ∨ v'.ownBlock = some w.heap.size) → wpList P ops Q rest (a.put o.dst v') w') : wpList P ops Q (o :: rest) a w :=
  wpList_plain hgd fun _ hK => wp_append_rd w s x t ho base e i z size bytes ht hi hz hsize hby hzs hsz v n xs hs hown B A m c news hx hr h1 hbytes hbase fun v' w' h2 h3 h4 => hK _ _ (h v' w' h2 h3 h4)
theorem step_append_rd {ops : Array Oper} {o : Oper} {a : Act} {K : Act → World → Prop} {Q : Exit → Act → World → Prop} {E : Prop} (hgd : o.guard = none) (s x : Operand) (t : TypeId)
    (ho : o.op = .call { callee := .builtin .append, args := #[s, x], argTypes := #[t, t] })
    (base : Nat) (e : TypeId) (i : TypeInfo) (z : Value) (size bytes : Nat) (ht : P.underlying t = some (.slice e)) (hi : P.info? e = some i) (hz : i.zero = some z)
    (hsize : i.size = size) (hby : i.bytes = bytes) (hzs : z.cells.size = size) (hsz : 0 < size)
    (v : Value) (n : Nat) (xs : List Value) (hs : a.eval s = v) (hown : w.ownsRow base e size v n xs)
    (B : Nat) (A : Option Addr) (m c : Nat) (news : List Value) (hx : a.eval x = .slice A m c) (hr : Rd w B size news A m) (h1 : ∀ u ∈ news, u.oneCell' = true)
    (hbytes : (n + m) * (bytes + 1) ≤ 140737488355328) (hbase : base ≤ w.heap.size)
    (h : ∀ v' w', w'.ownsRow base e size v' (n + m) (xs ++ news) → w.grownBy w' v.ownBlock → (v'.ownBlock = v.ownBlock ∨ v'.ownBlock = some w.heap.size) → K (a.put o.dst v') w') :
    if Region.wanted o (yielded ops a.tmps) = true then Oper.wp P o a w K Q else E := by
  have hw : Region.wanted o (yielded ops a.tmps) = true := by simp [Region.wanted, hgd]
  rw [if_pos hw]
  exact wp_append_rd w s x t ho base e i z size bytes ht hi hz hsize hby hzs hsz v n xs hs hown B A m c news hx hr h1 hbytes hbase h
end
theorem own_empty {w : World} {base b size : Nat} {e : TypeId} (h : w.heap[b]? = some (.cells #[] e (0, 0))) (hb : base ≤ b) : w.ownsRow base e size (.slice (some ⟨b, 0, none⟩) 0 0) 0 [] :=
  ⟨by simp, .inr ⟨b, 0, #[], rfl, hb, h, Nat.le_refl _, by simp, by simp, by simp⟩⟩
theorem Rd.blk {w : World} {B b size n : Nat} {cs : Array Value} {t : TypeId} {f : Nat × Nat} (h : w.heap[b]? = some (.cells cs t f)) (hn : cs.size = n * size) (hb : b < B) : Rd w B size cs.toList (some ⟨b, 0, none⟩) n :=
  ⟨by simpa using hn, .inr ⟨b, 0, rfl, hb, fun j u hu => by rw [Nat.zero_add, cell_of_row w b j cs t f h]; simpa using hu⟩⟩
theorem own_ge {w : World} {base size n : Nat} {e : TypeId} {v : Value} {xs : List Value} (h : w.ownsRow base e size v n xs) : ∀ k, v.ownBlock = some k → base ≤ k := by
  intro k hk
  rcases h.2 with ⟨rfl, _⟩ | ⟨g, cap, cur, rfl, hb, _⟩
  · simp [Value.ownBlock] at hk
  · simp [Value.ownBlock] at hk; omega
theorem Rd.drop' {w : World} {B size n k g o : Nat} {xs : List Value} (h : Rd w B size xs (some ⟨g, o, none⟩) n) (hk : k ≤ n) : Rd w B size (xs.drop (k * size)) (some ⟨g, o + k * size, none⟩) (n - k) := by
  have := h.drop_ (cap := k + n + 1) hk (by omega)
  rw [if_neg (by omega)] at this
  rcases this with ⟨h1, h2⟩
  refine ⟨h1, ?_⟩
  rcases h2 with h2 | ⟨g', o', hA, hg, hc⟩
  · exact .inl h2
  · refine .inr ⟨g, o + k * size, rfl, ?_⟩
    simp only [Option.map_some, Addr.add_lit, Option.some.injEq, Addr.mk.injEq] at hA
    obtain ⟨rfl, rfl, _⟩ := hA
    exact ⟨hg, hc⟩
theorem blk_new (w : World) (o : Obj) : (w.alloc o).heap[w.heap.size]? = some o := heap_alloc_new w o
theorem blk_new2 (w : World) (o o' : Obj) : ((w.alloc o).alloc o').heap[w.heap.size + 1]? = some o' := by
  have := blk_new (w.alloc o) o'
  simpa using this
theorem blk_old {w : World} {b : Nat} {o o' : Obj} (h : w.heap[b]? = some o) : (w.alloc o').heap[b]? = some o := by
  have hlt : b < w.heap.size := by
    rcases Nat.lt_or_ge b w.heap.size with hl | hl
    · exact hl
    · rw [Array.getElem?_eq_none hl] at h; cases h
  exact (Below.heap_alloc w o' b hlt).trans h
theorem info_int : (Tryz.prog.info? 3).map (fun i => (i.zero, i.size, i.bytes)) = some (some (.int .i64 0), 1, 8) := by kernel_rfl
theorem info_string : (Tryz.prog.info? 9).map (fun i => (i.zero, i.size, i.bytes)) = some (some (.string ⟨#[]⟩), 1, 16) := by kernel_rfl
theorem info_Type : (Tryz.prog.info? 33).map (fun i => (i.zero, i.size, i.bytes)) = some (some (.agg #[.int .i64 0, .string ⟨#[]⟩, .int .i64 0, .slice none 0 0]), 4, 56) := by kernel_rfl
end Go.Proofs.YtdjldmpfginkdaaGreatDoor
namespace Go.Proofs.YtdjldmpfginkdaaGreatDoor
open Go.RowKit

theorem below_step {wr Wc w' : World} (h : Below wr.heap.size wr Wc) (hb : Below Wc.heap.size Wc w') : Below wr.heap.size wr w' := h.trans (hb.mono h.size)
theorem below_drew (w : World) : Below w.heap.size w w.drew := (Below.refl _ _).drew
theorem below_new (w : World) (o : Obj) : Below w.heap.size w (w.alloc o) := (Below.refl _ _).alloc (Nat.le_refl _) _
theorem box_sk {wr : World} {b : Nat} {u0 u1 u2 u3 : Value} (h0 : wr.cell? ⟨b, 0, none⟩ = some u0) (h1 : wr.cell? ⟨b, 1, none⟩ = some u1) (h2 : wr.cell? ⟨b, 2, none⟩ = some u2) (h3 : wr.cell? ⟨b, 3, none⟩ = some u3) (hl : b < wr.heap.size) :
    ∀ W : World, Below wr.heap.size wr W → Below wr.heap.size wr W ∧ W.cell? ⟨b, 0, none⟩ = some (u0) ∧ W.cell? ⟨b, 1, none⟩ = some (u1) ∧ W.cell? ⟨b, 2, none⟩ = some (u2) ∧ W.cell? ⟨b, 3, none⟩ = some (u3) := fun _ hb =>
  ⟨hb, (hb.cell (p := ⟨b, 0, none⟩) hl).trans h0, (hb.cell (p := ⟨b, 1, none⟩) hl).trans h1, (hb.cell (p := ⟨b, 2, none⟩) hl).trans h2, (hb.cell (p := ⟨b, 3, none⟩) hl).trans h3⟩
theorem box_sk2 {wr : World} {b d : Nat} {u0 u1 u2 u3 v0 v1 v2 v3 : Value} (h : wr.cell? ⟨b, 0, none⟩ = some (u0) ∧ wr.cell? ⟨b, 1, none⟩ = some (u1) ∧ wr.cell? ⟨b, 2, none⟩ = some (u2) ∧ wr.cell? ⟨b, 3, none⟩ = some (u3)) (k : wr.cell? ⟨d, 0, none⟩ = some (v0) ∧ wr.cell? ⟨d, 1, none⟩ = some (v1) ∧ wr.cell? ⟨d, 2, none⟩ = some (v2) ∧ wr.cell? ⟨d, 3, none⟩ = some (v3)) (hl : b < wr.heap.size) (hd : d < wr.heap.size) :
    ∀ W : World, Below wr.heap.size wr W → Below wr.heap.size wr W ∧ (W.cell? ⟨b, 0, none⟩ = some (u0) ∧ W.cell? ⟨b, 1, none⟩ = some (u1) ∧ W.cell? ⟨b, 2, none⟩ = some (u2) ∧ W.cell? ⟨b, 3, none⟩ = some (u3)) ∧ W.cell? ⟨d, 0, none⟩ = some (v0) ∧ W.cell? ⟨d, 1, none⟩ = some (v1) ∧ W.cell? ⟨d, 2, none⟩ = some (v2) ∧ W.cell? ⟨d, 3, none⟩ = some (v3) := fun W hb =>
  ⟨hb, (box_sk h.1 h.2.1 h.2.2.1 h.2.2.2 hl W hb).2, (box_sk k.1 k.2.1 k.2.2.1 k.2.2.2 hd W hb).2⟩
theorem box_alloc (w : World) (u0 u1 u2 u3 : Value) (T : TypeId) : ((w.alloc (.cells #[u0, u1, u2, u3] T)).cell? ⟨w.heap.size, 0, none⟩ = some (u0) ∧ (w.alloc (.cells #[u0, u1, u2, u3] T)).cell? ⟨w.heap.size, 1, none⟩ = some (u1) ∧ (w.alloc (.cells #[u0, u1, u2, u3] T)).cell? ⟨w.heap.size, 2, none⟩ = some (u2) ∧ (w.alloc (.cells #[u0, u1, u2, u3] T)).cell? ⟨w.heap.size, 3, none⟩ = some (u3)) := by
  refine ⟨?_, ?_, ?_, ?_⟩ <;> simp
theorem box_alloc2 (w : World) (u0 u1 u2 u3 v0 v1 v2 v3 : Value) (T : TypeId) : (((w.alloc (.cells #[u0, u1, u2, u3] T)).alloc (.cells #[v0, v1, v2, v3] T)).cell? ⟨w.heap.size, 0, none⟩ = some (u0) ∧ ((w.alloc (.cells #[u0, u1, u2, u3] T)).alloc (.cells #[v0, v1, v2, v3] T)).cell? ⟨w.heap.size, 1, none⟩ = some (u1) ∧ ((w.alloc (.cells #[u0, u1, u2, u3] T)).alloc (.cells #[v0, v1, v2, v3] T)).cell? ⟨w.heap.size, 2, none⟩ = some (u2) ∧ ((w.alloc (.cells #[u0, u1, u2, u3] T)).alloc (.cells #[v0, v1, v2, v3] T)).cell? ⟨w.heap.size, 3, none⟩ = some (u3)) ∧ (((w.alloc (.cells #[u0, u1, u2, u3] T)).alloc (.cells #[v0, v1, v2, v3] T)).cell? ⟨w.heap.size + 1, 0, none⟩ = some (v0) ∧ ((w.alloc (.cells #[u0, u1, u2, u3] T)).alloc (.cells #[v0, v1, v2, v3] T)).cell? ⟨w.heap.size + 1, 1, none⟩ = some (v1) ∧ ((w.alloc (.cells #[u0, u1, u2, u3] T)).alloc (.cells #[v0, v1, v2, v3] T)).cell? ⟨w.heap.size + 1, 2, none⟩ = some (v2) ∧ ((w.alloc (.cells #[u0, u1, u2, u3] T)).alloc (.cells #[v0, v1, v2, v3] T)).cell? ⟨w.heap.size + 1, 3, none⟩ = some (v3)) := by
  refine ⟨⟨?_, ?_, ?_, ?_⟩, ?_, ?_, ?_, ?_⟩ <;> simp
end Go.Proofs.YtdjldmpfginkdaaGreatDoor
namespace Go.Proofs.YtdjldmpfginkdaaGreatDoor
open Go.RowKit

set_option maxHeartbeats 400000 in
theorem c_TermSize (N : Nat) : ∀ (t : Ty) (w : World) (L B : Nat) (v : Value), t.size ≤ N → IsTy w L B t v → B ≤ w.heap.size → t.size ≤ 2 ^ 40 →
    Calls Tryz.prog 76 #[v] w fun e w' => e = .returned (.int .i64 t.size) ∧ Below w.heap.size w w' := by
  induction N with
  | zero => intro t w L B v h; have := t.size_pos; omega
  | succ N ih =>
  intro t w L B v hN ht0 hB hM
  obtain ⟨A, c, rfl, hv⟩ := ht0.args_
  clear ht0
  rw [Ty.size_eq] at hN hM ⊢
  have hl := Ty.len_le t.args
  generalize t.kind = k, t.name = nm, t.index = ix, t.args = args at *
  have HV := Lib.hid hv; clear hv
  have IH := Lib.hid ih; clear ih
  generalize hn : args.length = n at *
  have Hn := Lib.hid hn; clear hn
  go_enter Tryz.func76, Tryz.ntmps76
  go_wp2
  go_loopw [3, 4] (fun s i wr => ∃ j : Nat, j ≤ n ∧ i = .int .i64 j ∧ s = .int .i64 (1 + (Ty.sizes (args.take j) : Nat)) ∧ wr.cell? ⟨w.heap.size, 3, none⟩ = some (.slice A n c) ∧ Below w.heap.size w wr ∧ w.heap.size < wr.heap.size) (fun _ i _ => n - (intOf i).toNat)
  case atStart => exact ⟨0, by omega, rfl, rfl, by simp, by exact (Below.refl _ _).alloc (Nat.le_refl _) _, by simp⟩
  case round =>
    obtain ⟨j, hj, rfl, rfl, hc, hb, hlt⟩ := hrel
    have hle := Ty.sizes_take_le args j
    by_cases hjn : j < n
    · obtain ⟨g, o, A', c', hj', rfl, hg1, hg2, c0, c1, c2, c3, ht⟩ := HV.out.at_ (KeepIn.of_below hb hB) hjn
      have hg := Ty.size_get j hj'
      have hs := Lib.hid (Ty.sizes_take j hj')
      have hle2 := Ty.sizes_take_le args (j + 1)
      have HT := Lib.hid ht
      clear ht
      generalize args[j] = tj at *
      have hs' : Ty.sizes (List.take (j + 1) args) ≤ Ty.sizes (List.take j args) + tj.size := by rw [hs.out]; exact Nat.le_refl _
      have hs'' : Ty.sizes (List.take j args) + tj.size ≤ Ty.sizes (List.take (j + 1) args) := by rw [hs.out]; exact Nat.le_refl _
      go_wp2_with fail
      refine (IH.out tj _ L B _ (by omega) HT.out (by omega) (by omega)).mono ?_
      rintro e w' ⟨rfl, hb'⟩
      go_wp2
      go_roundw
      case rel => exact ⟨j + 1, by omega, by go_num, by rw [hs.out]; go_num, by rw [hb'.cell (by exact hlt)]; exact hc, hb.trans (hb'.mono (by omega)), by have := hb'.size; omega⟩
      case measure => simp [intOf]; omega
    · have : j = n := by omega
      subst this
      go_wp2
      go_ret
      exact ⟨by rw [← Hn.out]; simp, hb⟩

set_option maxHeartbeats 400000 in
theorem c_Size (N : Nat) : ∀ (t : Ty) (w : World) (L B : Nat) (v : Value), t.size ≤ N → IsTy w L B t v → B ≤ w.heap.size → t.size ≤ 2 ^ 40 →
    Calls Tryz.prog 62 #[v] w fun e w' => e = .returned (.int .i64 t.size) ∧ Below w.heap.size w w' := by
  induction N with
  | zero => intro t w L B v h; have := t.size_pos; omega
  | succ N ih =>
  intro t w L B v hN ht0 hB hM
  obtain ⟨A, c, rfl, hv⟩ := ht0.args_
  clear ht0
  rw [Ty.size_eq] at hN hM ⊢
  have hl := Ty.len_le t.args
  generalize t.kind = k, t.name = nm, t.index = ix, t.args = args at *
  have HV := Lib.hid hv; clear hv
  have IH := Lib.hid ih; clear ih
  generalize hn : args.length = n at *
  have Hn := Lib.hid hn; clear hn
  go_enter Tryz.func62, Tryz.ntmps62
  go_wp2
  go_loopw [3, 9] (fun s i wr => ∃ j : Nat, j ≤ n ∧ i = .int .i64 j ∧ s = .int .i64 (1 + (Ty.sizes (args.take j) : Nat)) ∧ wr.cell? ⟨w.heap.size, 3, none⟩ = some (.slice A n c) ∧ Below w.heap.size w wr ∧ w.heap.size < wr.heap.size) (fun _ i _ => n - (intOf i).toNat)
  case atStart => exact ⟨0, by omega, rfl, rfl, by simp, by exact (Below.refl _ _).alloc (Nat.le_refl _) _, by simp⟩
  case round =>
    obtain ⟨j, hj, rfl, rfl, hc, hb, hlt⟩ := hrel
    have hle := Ty.sizes_take_le args j
    by_cases hjn : j < n
    · obtain ⟨g, o, A', c', hj', rfl, hg1, hg2, c0, c1, c2, c3, ht⟩ := HV.out.at_ (KeepIn.of_below hb hB) hjn
      have hg := Ty.size_get j hj'
      have hs := Lib.hid (Ty.sizes_take j hj')
      have hle2 := Ty.sizes_take_le args (j + 1)
      have HT := Lib.hid ht
      clear ht
      generalize args[j] = tj at *
      have hs' : Ty.sizes (List.take (j + 1) args) ≤ Ty.sizes (List.take j args) + tj.size := by rw [hs.out]; exact Nat.le_refl _
      have hs'' : Ty.sizes (List.take j args) + tj.size ≤ Ty.sizes (List.take (j + 1) args) := by rw [hs.out]; exact Nat.le_refl _
      go_wp2_with fail
      refine (IH.out tj _ L B _ (by omega) (HT.out.keep (KeepIn.alloc _ (by omega)) (Nat.le_refl _) (Nat.le_refl _)) (by simp; omega) (by omega)).mono ?_
      rintro e w' ⟨rfl, hb'⟩
      go_wp2
      go_roundw
      case rel => exact ⟨j + 1, by omega, by go_num, by rw [hs.out]; go_num, by rw [hb'.cell (by simp; omega), World.cell?_alloc_lt _ _ _ (by exact hlt)]; exact hc, (hb.alloc (by omega) _).trans (hb'.mono (by simp; omega)), by have := hb'.size; simp at this; omega⟩
      case measure => simp [intOf]; omega
    · have : j = n := by omega
      subst this
      go_wp2
      go_ret
      exact ⟨by rw [← Hn.out]; simp, hb⟩

set_option maxHeartbeats 400000 in
theorem c_TermDepth (N : Nat) : ∀ (t : Ty) (w : World) (L B : Nat) (v : Value), t.size ≤ N → IsTy w L B t v → B ≤ w.heap.size → t.size ≤ 2 ^ 40 →
    Calls Tryz.prog 77 #[v] w fun e w' => e = .returned (.int .i64 t.depth) ∧ Below w.heap.size w w' := by
  induction N with
  | zero => intro t w L B v h; have := t.size_pos; omega
  | succ N ih =>
  intro t w L B v hN ht0 hB hM
  obtain ⟨A, c, rfl, hv⟩ := ht0.args_
  clear ht0
  rw [Ty.size_eq] at hN hM
  rw [Ty.depth_eq]
  have hd := Ty.depths_le t.args
  have hl := Ty.len_le t.args
  generalize t.kind = k, t.name = nm, t.index = ix, t.args = args at *
  have HV := Lib.hid hv; clear hv
  have IH := Lib.hid ih; clear ih
  generalize hn : args.length = n at *
  have Hn := Lib.hid hn; clear hn
  go_enter Tryz.func77, Tryz.ntmps77
  go_wp2
  go_loopw [3, 4] (fun s i wr => ∃ j : Nat, j ≤ n ∧ i = .int .i64 j ∧ s = .int .i64 (Ty.depths (args.take j) : Nat) ∧ wr.cell? ⟨w.heap.size, 3, none⟩ = some (.slice A n c) ∧ Below w.heap.size w wr ∧ w.heap.size < wr.heap.size) (fun _ i _ => n - (intOf i).toNat)
  case atStart => exact ⟨0, by omega, rfl, rfl, by simp, by exact (Below.refl _ _).alloc (Nat.le_refl _) _, by simp⟩
  case round =>
    obtain ⟨j, hj, rfl, rfl, hc, hb, hlt⟩ := hrel
    have hle := Ty.depths_le (args.take j)
    have hle2 := Ty.sizes_take_le args j
    by_cases hjn : j < n
    · obtain ⟨g, o, A', c', hj', rfl, hg1, hg2, c0, c1, c2, c3, ht⟩ := HV.out.at_ (KeepIn.of_below hb hB) hjn
      have hg := Ty.size_get j hj'
      have hg2' := Ty.depth_le args[j]
      have hs := Lib.hid (Ty.depths_take j hj')
      have HT := Lib.hid ht
      clear ht
      generalize args[j] = tj at *
      go_wp2_with fail
      refine (IH.out tj _ L B _ (by omega) HT.out (by omega) (by omega)).mono ?_
      rintro e w' ⟨rfl, hb'⟩
      go_wp2
      go_roundw
      case rel => exact ⟨j + 1, by omega, by go_num, by rw [hs.out]; (simp only [Value.int.injEq, true_and]; split <;> omega), by rw [hb'.cell (by exact hlt)]; exact hc, hb.trans (hb'.mono (by omega)), by have := hb'.size; omega⟩
      case measure => simp [intOf]; omega
    · have : j = n := by omega
      subst this
      go_wp2
      go_ret
      exact ⟨by rw [← Hn.out]; simp, hb⟩

set_option maxHeartbeats 400000 in
theorem c_Depth (N : Nat) : ∀ (t : Ty) (w : World) (L B : Nat) (v : Value), t.size ≤ N → IsTy w L B t v → B ≤ w.heap.size → t.size ≤ 2 ^ 40 →
    Calls Tryz.prog 63 #[v] w fun e w' => e = .returned (.int .i64 t.depth) ∧ Below w.heap.size w w' := by
  induction N with
  | zero => intro t w L B v h; have := t.size_pos; omega
  | succ N ih =>
  intro t w L B v hN ht0 hB hM
  obtain ⟨A, c, rfl, hv⟩ := ht0.args_
  clear ht0
  rw [Ty.size_eq] at hN hM
  rw [Ty.depth_eq]
  have hd := Ty.depths_le t.args
  have hl := Ty.len_le t.args
  generalize t.kind = k, t.name = nm, t.index = ix, t.args = args at *
  have HV := Lib.hid hv; clear hv
  have IH := Lib.hid ih; clear ih
  generalize hn : args.length = n at *
  have Hn := Lib.hid hn; clear hn
  go_enter Tryz.func63, Tryz.ntmps63
  go_wp2
  go_loopw [3, 9] (fun s i wr => ∃ j : Nat, j ≤ n ∧ i = .int .i64 j ∧ s = .int .i64 (Ty.depths (args.take j) : Nat) ∧ wr.cell? ⟨w.heap.size, 3, none⟩ = some (.slice A n c) ∧ Below w.heap.size w wr ∧ w.heap.size < wr.heap.size) (fun _ i _ => n - (intOf i).toNat)
  case atStart => exact ⟨0, by omega, rfl, rfl, by simp, by exact (Below.refl _ _).alloc (Nat.le_refl _) _, by simp⟩
  case round =>
    obtain ⟨j, hj, rfl, rfl, hc, hb, hlt⟩ := hrel
    have hle := Ty.depths_le (args.take j)
    have hle2 := Ty.sizes_take_le args j
    by_cases hjn : j < n
    · obtain ⟨g, o, A', c', hj', rfl, hg1, hg2, c0, c1, c2, c3, ht⟩ := HV.out.at_ (KeepIn.of_below hb hB) hjn
      have hg := Ty.size_get j hj'
      have hg2' := Ty.depth_le args[j]
      have hs := Lib.hid (Ty.depths_take j hj')
      have HT := Lib.hid ht
      clear ht
      generalize args[j] = tj at *
      go_wp2_with fail
      refine (IH.out tj _ L B _ (by omega) (HT.out.keep (KeepIn.alloc _ (by omega)) (Nat.le_refl _) (Nat.le_refl _)) (by simp; omega) (by omega)).mono ?_
      rintro e w' ⟨rfl, hb'⟩
      go_wp2
      go_roundw
      case rel => exact ⟨j + 1, by omega, by go_num, by rw [hs.out]; (simp only [Value.int.injEq, true_and]; split <;> omega), by rw [hb'.cell (by simp; omega), World.cell?_alloc_lt _ _ _ (by exact hlt)]; exact hc, (hb.alloc (by omega) _).trans (hb'.mono (by simp; omega)), by have := hb'.size; simp at this; omega⟩
      case measure => simp [intOf]; omega
    · have : j = n := by omega
      subst this
      go_wp2
      go_ret
      exact ⟨by rw [← Hn.out]; simp, hb⟩

end Go.Proofs.YtdjldmpfginkdaaGreatDoor
