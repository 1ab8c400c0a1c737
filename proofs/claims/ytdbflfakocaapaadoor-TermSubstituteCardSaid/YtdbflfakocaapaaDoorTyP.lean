/- Terms whose memory lies in given blocks, not in an interval: for functions that share memory with their argument. -/
import Derived.Test.YtdbflfakocaapaaDoorBox
import Derived.Test.YtdbflfakocaapaaDoorSubst
namespace Go.Proofs.YtdbflfakocaapaaDoor
open Go.RowKit

mutual
def IsTyP (w : World) (P : Nat → Prop) : Ty → Value → Prop
  | ⟨k, nm, ix, args⟩, v => ∃ A c, v = .agg #[.int .i64 k, .string nm, .int .i64 ix, .slice A args.length c] ∧ args.length ≤ c ∧
      (args.length = 0 ∨ ∃ g o, A = some ⟨g, o, none⟩ ∧ P g ∧ IsTysP w P args g o)
def IsTysP (w : World) (P : Nat → Prop) : List Ty → Nat → Nat → Prop
  | [], _, _ => True
  | t :: ts, g, o => (∃ v0 v1 v2 v3, w.cell? ⟨g, o, none⟩ = some v0 ∧ w.cell? ⟨g, o + 1, none⟩ = some v1 ∧ w.cell? ⟨g, o + 2, none⟩ = some v2 ∧ w.cell? ⟨g, o + 3, none⟩ = some v3 ∧ IsTyP w P t (.agg #[v0, v1, v2, v3])) ∧ IsTysP w P ts g (o + 4)
 end

mutual
theorem IsTyP.keep {w w' : World} {P P' : Nat → Prop} (hk : ∀ b, P b → w'.heap[b]? = w.heap[b]?) (h1 : ∀ b, P b → P' b) : ∀ {t : Ty} {v : Value}, IsTyP w P t v → IsTyP w' P' t v
  | ⟨k, nm, ix, args⟩, v => by
    intro h
    unfold IsTyP at h ⊢
    obtain ⟨A, c, hv, hc, h⟩ := h
    refine ⟨A, c, hv, hc, ?_⟩
    rcases h with h | ⟨g, o, hA, hl, h⟩
    · exact .inl h
    · exact .inr ⟨g, o, hA, h1 g hl, IsTysP.keep hk h1 hl h⟩
theorem IsTysP.keep {w w' : World} {P P' : Nat → Prop} {g : Nat} (hk : ∀ b, P b → w'.heap[b]? = w.heap[b]?) (h1 : ∀ b, P b → P' b) (hg : P g) : ∀ {ts : List Ty} {o : Nat}, IsTysP w P ts g o → IsTysP w' P' ts g o
  | [], o => by intro _; unfold IsTysP; trivial
  | t :: ts, o => by
    intro h
    unfold IsTysP at h ⊢
    obtain ⟨⟨v0, v1, v2, v3, c0, c1, c2, c3, ht⟩, hs⟩ := h
    have hc := fun (o : Nat) => World.cell?_of_block (w := w) (w' := w') (a := ⟨g, o, none⟩) (hk g hg)
    exact ⟨⟨v0, v1, v2, v3, (hc _).trans c0, (hc _).trans c1, (hc _).trans c2, (hc _).trans c3, IsTyP.keep hk h1 ht⟩, IsTysP.keep hk h1 hg hs⟩
 end
mutual
theorem IsTy.p {w : World} {L B : Nat} : ∀ {t : Ty} {v : Value}, IsTy w L B t v → IsTyP w (fun b => L ≤ b ∧ b < B) t v
  | ⟨k, nm, ix, args⟩, v => by
    intro h
    unfold IsTy at h
    unfold IsTyP
    obtain ⟨A, c, hv, hc, h⟩ := h
    refine ⟨A, c, hv, hc, ?_⟩
    rcases h with h | ⟨g, o, hA, hl, hb, h⟩
    · exact .inl h
    · exact .inr ⟨g, o, hA, ⟨hl, hb⟩, IsTys.p h⟩
theorem IsTys.p {w : World} {L B g : Nat} : ∀ {ts : List Ty} {o : Nat}, IsTys w L B ts g o → IsTysP w (fun b => L ≤ b ∧ b < B) ts g o
  | [], o => by intro _; unfold IsTysP; trivial
  | t :: ts, o => by
    intro h
    unfold IsTys at h
    unfold IsTysP
    obtain ⟨⟨v0, v1, v2, v3, c0, c1, c2, c3, ht⟩, hs⟩ := h
    exact ⟨⟨v0, v1, v2, v3, c0, c1, c2, c3, IsTy.p ht⟩, IsTys.p hs⟩
 end
mutual
theorem IsTyP.ty {w : World} {P : Nat → Prop} {B : Nat} (hP : ∀ b, P b → b < B) : ∀ {t : Ty} {v : Value}, IsTyP w P t v → IsTy w 0 B t v
  | ⟨k, nm, ix, args⟩, v => by
    intro h
    unfold IsTyP at h
    unfold IsTy
    obtain ⟨A, c, hv, hc, h⟩ := h
    refine ⟨A, c, hv, hc, ?_⟩
    rcases h with h | ⟨g, o, hA, hl, h⟩
    · exact .inl h
    · exact .inr ⟨g, o, hA, Nat.zero_le _, hP g hl, IsTysP.ty hP h⟩
theorem IsTysP.ty {w : World} {P : Nat → Prop} {B g : Nat} (hP : ∀ b, P b → b < B) : ∀ {ts : List Ty} {o : Nat}, IsTysP w P ts g o → IsTys w 0 B ts g o
  | [], o => by intro _; unfold IsTys; trivial
  | t :: ts, o => by
    intro h
    unfold IsTysP at h
    unfold IsTys
    obtain ⟨⟨v0, v1, v2, v3, c0, c1, c2, c3, ht⟩, hs⟩ := h
    exact ⟨⟨v0, v1, v2, v3, c0, c1, c2, c3, IsTyP.ty hP ht⟩, IsTysP.ty hP hs⟩
 end
theorem IsTyP.below {w w' : World} {P : Nat → Prop} {C : Nat} {t : Ty} {v : Value} (h : IsTyP w P t v) (hb : Below C w w') (hP : ∀ b, P b → b < C) : IsTyP w' P t v :=
  h.keep (fun b hp => hb.block b (hP b hp)) fun _ h => h
theorem IsTysP.get {w : World} {P : Nat → Prop} {g : Nat} : ∀ {ts : List Ty} {o : Nat} (j : Nat) (hj : j < ts.length), IsTysP w P ts g o →
    ∃ v0 v1 v2 v3, w.cell? ⟨g, o + j * 4, none⟩ = some v0 ∧ w.cell? ⟨g, o + j * 4 + 1, none⟩ = some v1 ∧ w.cell? ⟨g, o + j * 4 + 2, none⟩ = some v2 ∧ w.cell? ⟨g, o + j * 4 + 3, none⟩ = some v3 ∧ IsTyP w P ts[j] (.agg #[v0, v1, v2, v3])
  | [], o, j, hj, _ => absurd hj (by simp)
  | t :: ts, o, 0, hj, h => by
    unfold IsTysP at h
    obtain ⟨⟨v0, v1, v2, v3, c0, c1, c2, c3, ht⟩, hs⟩ := h
    exact ⟨v0, v1, v2, v3, by simpa using c0, by simpa using c1, by simpa using c2, by simpa using c3, ht⟩
  | t :: ts, o, j + 1, hj, h => by
    unfold IsTysP at h
    obtain ⟨_, hs⟩ := h
    have := IsTysP.get j (by simpa using hj) hs
    have e : o + (j + 1) * 4 = o + 4 + j * 4 := by omega
    rw [e]
    simpa using this
theorem IsTysP.of_all {w : World} {P : Nat → Prop} {g : Nat} : ∀ {ts : List Ty} {o : Nat}, (∀ (j : Nat) (hj : j < ts.length), ∃ v0 v1 v2 v3, w.cell? ⟨g, o + j * 4, none⟩ = some v0 ∧ w.cell? ⟨g, o + j * 4 + 1, none⟩ = some v1 ∧ w.cell? ⟨g, o + j * 4 + 2, none⟩ = some v2 ∧ w.cell? ⟨g, o + j * 4 + 3, none⟩ = some v3 ∧ IsTyP w P ts[j] (.agg #[v0, v1, v2, v3])) → IsTysP w P ts g o
  | [], o, _ => by unfold IsTysP; trivial
  | t :: ts, o, h => by
    unfold IsTysP
    obtain ⟨v0, v1, v2, v3, c0, c1, c2, c3, ht⟩ := h 0 (by simp)
    refine ⟨⟨v0, v1, v2, v3, by simpa using c0, by simpa using c1, by simpa using c2, by simpa using c3, ht⟩, IsTysP.of_all fun j hj => ?_⟩
    have := h (j + 1) (by simpa using hj)
    have e : o + 4 + j * 4 = o + (j + 1) * 4 := by omega
    rw [e]
    simpa using this

/-- A slice of terms. -/
def IsTylP (w : World) (P : Nat → Prop) (ts : List Ty) (v : Value) : Prop :=
  ∃ A c, v = .slice A ts.length c ∧ ts.length ≤ c ∧ (ts.length = 0 ∨ ∃ g o, A = some ⟨g, o, none⟩ ∧ P g ∧ IsTysP w P ts g o)
theorem IsTyP.args_ {w : World} {P : Nat → Prop} {t : Ty} {v : Value} (h : IsTyP w P t v) :
    ∃ A c, v = .agg #[.int .i64 t.kind, .string t.name, .int .i64 t.index, .slice A t.args.length c] ∧ IsTylP w P t.args (.slice A t.args.length c) := by
  cases t
  unfold IsTyP at h
  obtain ⟨A, c, hv, hc, h⟩ := h
  exact ⟨A, c, hv, A, c, rfl, hc, h⟩
theorem IsTyP.mk_ {w : World} {P : Nat → Prop} {k ix : Int} {nm : ByteArray} {ts : List Ty} {v : Value} (h : IsTylP w P ts v) :
    IsTyP w P ⟨k, nm, ix, ts⟩ (.agg #[.int .i64 k, .string nm, .int .i64 ix, v]) := by
  obtain ⟨A, c, rfl, hc, h⟩ := h
  unfold IsTyP
  exact ⟨A, c, rfl, hc, h⟩
theorem IsTylP.nil {w : World} {P : Nat → Prop} (A : Option Addr) (c : Nat) : IsTylP w P [] (.slice A 0 c) := ⟨A, c, rfl, Nat.zero_le _, .inl rfl⟩
theorem IsTylP.keep {w w' : World} {P P' : Nat → Prop} {ts : List Ty} {v : Value} (h : IsTylP w P ts v) (hk : ∀ b, P b → w'.heap[b]? = w.heap[b]?) (h1 : ∀ b, P b → P' b) : IsTylP w' P' ts v := by
  obtain ⟨A, c, hv, hc, h⟩ := h
  refine ⟨A, c, hv, hc, ?_⟩
  rcases h with h | ⟨g, o, hA, hl, h⟩
  · exact .inl h
  · exact .inr ⟨g, o, hA, h1 g hl, IsTysP.keep hk h1 hl h⟩
/-- The element j of a slice of terms, in a world that has kept it. -/
theorem IsTylP.at_ {w w' : World} {P : Nat → Prop} {ts : List Ty} {A : Option Addr} {n c : Nat} (h : IsTylP w P ts (.slice A n c)) (hk : ∀ b, P b → w'.heap[b]? = w.heap[b]?) {j : Nat} (hj : j < n) :
    ∃ g o A' c', ∃ hj' : j < ts.length, A = some ⟨g, o, none⟩ ∧ P g ∧ w'.cell? ⟨g, o + j * 4, none⟩ = some (.int .i64 ts[j].kind) ∧ w'.cell? ⟨g, o + j * 4 + 1, none⟩ = some (.string ts[j].name) ∧
      w'.cell? ⟨g, o + j * 4 + 2, none⟩ = some (.int .i64 ts[j].index) ∧ w'.cell? ⟨g, o + j * 4 + 3, none⟩ = some (.slice A' ts[j].args.length c') ∧
      IsTyP w' P ts[j] (.agg #[.int .i64 ts[j].kind, .string ts[j].name, .int .i64 ts[j].index, .slice A' ts[j].args.length c']) := by
  obtain ⟨A', c', hv, _, hh⟩ := h.keep hk fun _ h => h
  clear h
  simp only [Value.slice.injEq] at hv
  obtain ⟨rfl, rfl, rfl⟩ := hv
  rcases hh with h | ⟨g, o, rfl, hl, h⟩
  · omega
  · obtain ⟨v0, v1, v2, v3, c0, c1, c2, c3, ht⟩ := IsTysP.get j hj h
    obtain ⟨A', c', e, _⟩ := ht.args_
    simp only [Value.agg.injEq, Array.mk.injEq, List.cons.injEq, and_true] at e
    obtain ⟨rfl, rfl, rfl, rfl⟩ := e
    exact ⟨g, o, A', c', hj, rfl, hl, c0, c1, c2, c3, ht⟩
theorem IsTylP.len_ {w : World} {P : Nat → Prop} {ts : List Ty} {A : Option Addr} {n c : Nat} (h : IsTylP w P ts (.slice A n c)) : ts.length = n := by
  obtain ⟨A', c', hv, _⟩ := h
  simp only [Value.slice.injEq] at hv
  exact hv.2.1.symm
theorem IsTylP.cap {w : World} {P : Nat → Prop} {ts : List Ty} {A : Option Addr} {n c : Nat} (h : IsTylP w P ts (.slice A n c)) : n ≤ c := by
  obtain ⟨A', c', hv, hc, _⟩ := h
  simp only [Value.slice.injEq] at hv
  omega
theorem IsTysP.take {w : World} {P : Nat → Prop} {g : Nat} : ∀ {ts : List Ty} {o : Nat} (j : Nat), IsTysP w P ts g o → IsTysP w P (ts.take j) g o
  | [], o, j, _ => by simp; unfold IsTysP; trivial
  | t :: ts, o, 0, _ => by simp; unfold IsTysP; trivial
  | t :: ts, o, j + 1, h => by
    unfold IsTysP at h
    rw [List.take_succ_cons]
    unfold IsTysP
    exact ⟨h.1, IsTysP.take j h.2⟩
theorem IsTylP.take {w : World} {P : Nat → Prop} {ts : List Ty} {g o n c c' : Nat} (j : Nat) (hj : j ≤ ts.length) (hc' : j ≤ c') (h : IsTylP w P ts (.slice (some ⟨g, o, none⟩) n c)) : IsTylP w P (ts.take j) (.slice (some ⟨g, o, none⟩) j c') := by
  obtain ⟨A', c1, hv, _, hh⟩ := h
  simp only [Value.slice.injEq] at hv
  obtain ⟨rfl, rfl, rfl⟩ := hv
  have hl : (ts.take j).length = j := by rw [List.length_take]; omega
  refine ⟨_, c', by rw [hl], by rw [hl]; exact hc', ?_⟩
  rcases hh with h | ⟨g', o', e, hp, h⟩
  · left; rw [hl]; omega
  · exact .inr ⟨g', o', e, hp, IsTysP.take j h⟩

/-- Element t lies as the value .agg #[x0, x1, x2, x3], in the blocks P or in new ones other than the row. -/
def ElemP (W : World) (P : Nat → Prop) (lo : Nat) (row : Option Nat) (t : Ty) (x0 x1 x2 x3 : Value) : Prop := IsTyP W (fun b => P b ∨ (lo ≤ b ∧ b < W.heap.size ∧ row ≠ some b)) t (.agg #[x0, x1, x2, x3])
/-- The slice v is a row of the call's own, from block lo on, and holds the terms ts. -/
def AccP (W : World) (P : Nat → Prop) (lo : Nat) (ts : List Ty) (v : Value) : Prop :=
  ∃ xs : List Value, W.ownsRow lo 25 4 v ts.length xs ∧ ∀ (i : Nat) (hi : i < ts.length), ∃ x0 x1 x2 x3, xs[i * 4]? = some x0 ∧ xs[i * 4 + 1]? = some x1 ∧ xs[i * 4 + 2]? = some x2 ∧ xs[i * 4 + 3]? = some x3 ∧ ElemP W P lo v.ownBlock ts[i] x0 x1 x2 x3
theorem AccP.nil (W : World) (P : Nat → Prop) (lo : Nat) : AccP W P lo [] (.slice none 0 0) := ⟨[], ⟨by simp, .inl ⟨rfl, rfl⟩⟩, fun i hi => by simp at hi⟩
theorem AccP.form {W : World} {P : Nat → Prop} {lo : Nat} {ts : List Ty} {v : Value} (h : AccP W P lo ts v) : ∃ A c, v = .slice A ts.length c := by
  obtain ⟨xs, hown, _⟩ := h
  rcases hown.2 with ⟨rfl, h0⟩ | ⟨g, cap, cur, rfl, _⟩
  · exact ⟨none, 0, by rw [h0]⟩
  · exact ⟨_, _, rfl⟩
theorem AccP.own_ge {W : World} {P : Nat → Prop} {lo : Nat} {ts : List Ty} {v : Value} (h : AccP W P lo ts v) : ∀ k, v.ownBlock = some k → lo ≤ k := by
  obtain ⟨xs, hown, _⟩ := h
  exact Go.Proofs.YtdbflfakocaapaaDoor.own_ge hown
theorem AccP.own_lt {W : World} {P : Nat → Prop} {lo : Nat} {ts : List Ty} {v : Value} (h : AccP W P lo ts v) : ∀ k, v.ownBlock = some k → k < W.heap.size := by
  obtain ⟨xs, hown, _⟩ := h
  intro k hk
  rcases hown.2 with ⟨rfl, _⟩ | ⟨g, cap, cur, rfl, _, hh, _⟩
  · simp [Value.ownBlock] at hk
  · simp only [Value.ownBlock, Option.some.injEq] at hk
    subst hk
    exact blk_lt' hh
theorem AccP.below {W W' : World} {P : Nat → Prop} {lo : Nat} {ts : List Ty} {v : Value} (h : AccP W P lo ts v) (hP : ∀ b, P b → b < W.heap.size) (hb : ∀ b, b < W.heap.size → W'.heap[b]? = W.heap[b]? ) (hs : W.heap.size ≤ W'.heap.size) : AccP W' P lo ts v := by
  have hlt := h.own_lt
  obtain ⟨xs, hown, hel⟩ := h
  refine ⟨xs, ⟨hown.1, ?_⟩, fun i hi => ?_⟩
  · rcases hown.2 with h1 | ⟨g, cap, cur, hv, hg, hh, r⟩
    · exact .inl h1
    · exact .inr ⟨g, cap, cur, hv, hg, (hb g (hlt g (by rw [hv]; rfl))).trans hh, r⟩
  · obtain ⟨x0, x1, x2, x3, e0, e1, e2, e3, ht⟩ := hel i hi
    refine ⟨x0, x1, x2, x3, e0, e1, e2, e3, IsTyP.keep (fun b hp => ?_) (fun b hp => ?_) ht⟩
    · rcases hp with hp | hp
      · exact hb b (hP b hp)
      · exact hb b hp.2.1
    · rcases hp with hp | ⟨h1, h2, h3⟩
      · exact .inl hp
      · exact .inr ⟨h1, by omega, h3⟩
theorem AccP.push {W W' : World} {P : Nat → Prop} {lo : Nat} {ts : List Ty} {v v' : Value} {t : Ty} {x0 x1 x2 x3 : Value} (xs : List Value) (hP : ∀ b, P b → b < lo) (hlo : lo ≤ W.heap.size)
    (hge : ∀ k, v.ownBlock = some k → lo ≤ k)
    (hel : ∀ (i : Nat) (hi : i < ts.length), ∃ x0 x1 x2 x3, xs[i * 4]? = some x0 ∧ xs[i * 4 + 1]? = some x1 ∧ xs[i * 4 + 2]? = some x2 ∧ xs[i * 4 + 3]? = some x3 ∧ ElemP W P lo v.ownBlock ts[i] x0 x1 x2 x3)
    (hlen : xs.length = ts.length * 4) (ht : ElemP W P lo v.ownBlock t x0 x1 x2 x3) (hown : W'.ownsRow lo 25 4 v' (ts.length + 1) (xs ++ [x0, x1, x2, x3])) (hg : W.grownBy W' v.ownBlock)
    (hat : v'.ownBlock = v.ownBlock ∨ v'.ownBlock = some W.heap.size) : AccP W' P lo (ts ++ [t]) v' := by
  have conv : ∀ {t : Ty} {y0 y1 y2 y3 : Value}, ElemP W P lo v.ownBlock t y0 y1 y2 y3 → ElemP W' P lo v'.ownBlock t y0 y1 y2 y3 := by
    intro t y0 y1 y2 y3 h
    refine IsTyP.keep (fun b hp => ?_) (fun b hp => ?_) h
    · rcases hp with hp | ⟨h1, h2, h3⟩
      · have := hP b hp
        exact hg.block b (by omega) (fun e => by have := hge b e.symm; omega)
      · exact hg.block b h2 (fun e => h3 e.symm)
    · rcases hp with hp | ⟨h1, h2, h3⟩
      · exact .inl hp
      · refine .inr ⟨h1, Nat.lt_of_lt_of_le h2 hg.size, fun e => ?_⟩
        rcases hat with h | h
        · rw [h] at e; exact h3 e
        · rw [h] at e; injection e with e; omega
  refine ⟨xs ++ [x0, x1, x2, x3], by simpa using hown, fun i hi => ?_⟩
  by_cases hlt : i < ts.length
  · obtain ⟨y0, y1, y2, y3, e0, e1, e2, e3, he⟩ := hel i hlt
    refine ⟨y0, y1, y2, y3, ?_, ?_, ?_, ?_, ?_⟩
    · rw [List.getElem?_append_left (by omega)]; exact e0
    · rw [List.getElem?_append_left (by omega)]; exact e1
    · rw [List.getElem?_append_left (by omega)]; exact e2
    · rw [List.getElem?_append_left (by omega)]; exact e3
    · rw [List.getElem_append_left hlt]; exact conv he
  · have hi' : i = ts.length := by simp at hi; omega
    subst hi'
    refine ⟨x0, x1, x2, x3, ?_, ?_, ?_, ?_, ?_⟩
    · rw [List.getElem?_append_right (by omega), hlen]; simp
    · rw [List.getElem?_append_right (by omega), hlen]; simp
    · rw [List.getElem?_append_right (by omega), hlen]; simp
    · rw [List.getElem?_append_right (by omega), hlen]; simp
    · simp only [List.getElem_concat_length]
      exact conv ht
theorem AccP.isTylP {W : World} {P : Nat → Prop} {lo : Nat} {ts : List Ty} {v : Value} (h : AccP W P lo ts v) : IsTylP W (fun b => P b ∨ (lo ≤ b ∧ b < W.heap.size)) ts v := by
  have hlt := h.own_lt
  obtain ⟨xs, hown, hel⟩ := h
  rcases hown.2 with ⟨rfl, h0⟩ | ⟨g, cap, cur, rfl, hg, hh, hnc, hcm, hcs, htk⟩
  · exact ⟨none, 0, by rw [h0], by omega, .inl h0⟩
  · refine ⟨_, _, rfl, hnc, .inr ⟨g, 0, rfl, .inr ⟨hg, hlt g rfl⟩, IsTysP.of_all fun i hi => ?_⟩⟩
    obtain ⟨x0, x1, x2, x3, e0, e1, e2, e3, ht⟩ := hel i hi
    have hc : ∀ j u, xs[j]? = some u → W.cell? ⟨g, j, none⟩ = some u := fun j u hu => by
      have := hown.cells (g := g) rfl j u hu
      simpa [Addr.add_lit] using this
    refine ⟨x0, x1, x2, x3, ?_, ?_, ?_, ?_, IsTyP.keep (fun _ _ => rfl) (fun b hp => ?_) ht⟩
    · rw [Nat.zero_add]; exact hc _ _ e0
    · rw [Nat.zero_add]; exact hc _ _ e1
    · rw [Nat.zero_add]; exact hc _ _ e2
    · rw [Nat.zero_add]; exact hc _ _ e3
    · rcases hp with hp | ⟨h1, h2, _⟩
      · exact .inl hp
      · exact .inr ⟨h1, h2⟩
end Go.Proofs.YtdbflfakocaapaaDoor
