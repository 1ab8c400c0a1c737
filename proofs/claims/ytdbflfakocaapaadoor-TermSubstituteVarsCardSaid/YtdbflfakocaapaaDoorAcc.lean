/- A slice of terms that grows by append: what a loop 'out = append(out, f(..))' keeps. -/
import Derived.Test.YtdbflfakocaapaaDoorMem
namespace Go.Proofs.YtdbflfakocaapaaDoor
open Go.RowKit

/-- Element t lies as the value .agg #[x0, x1, x2, x3]; its own blocks lie from lo on, not in the row. -/
def ElemOk (W : World) (lo : Nat) (row : Option Nat) (t : Ty) (x0 x1 x2 x3 : Value) : Prop :=
  ∃ L B, lo ≤ L ∧ B ≤ W.heap.size ∧ (∀ k, row = some k → k < L ∨ B ≤ k) ∧ IsTy W L B t (.agg #[x0, x1, x2, x3])
/-- The slice v is a row of the call's own, from block lo on, and holds the terms ts, whose own blocks lie from lo2 on. -/
def Acc (W : World) (lo lo2 : Nat) (ts : List Ty) (v : Value) : Prop :=
  ∃ xs : List Value, W.ownsRow lo 25 4 v ts.length xs ∧ ∀ (i : Nat) (hi : i < ts.length), ∃ x0 x1 x2 x3, xs[i * 4]? = some x0 ∧ xs[i * 4 + 1]? = some x1 ∧ xs[i * 4 + 2]? = some x2 ∧ xs[i * 4 + 3]? = some x3 ∧ ElemOk W lo2 v.ownBlock ts[i] x0 x1 x2 x3

theorem Acc.nil (W : World) (lo lo2 : Nat) : Acc W lo lo2 [] (.slice none 0 0) := ⟨[], ⟨by simp, .inl ⟨rfl, rfl⟩⟩, fun i hi => by simp at hi⟩
theorem Acc.form {W : World} {lo lo2 : Nat} {ts : List Ty} {v : Value} (h : Acc W lo lo2 ts v) : ∃ A c, v = .slice A ts.length c := by
  obtain ⟨xs, hown, _⟩ := h
  rcases hown.2 with ⟨rfl, h0⟩ | ⟨g, cap, cur, rfl, _⟩
  · exact ⟨none, 0, by rw [h0]⟩
  · exact ⟨_, _, rfl⟩
theorem Acc.own_ge {W : World} {lo lo2 : Nat} {ts : List Ty} {v : Value} (h : Acc W lo lo2 ts v) : ∀ k, v.ownBlock = some k → lo ≤ k := by
  obtain ⟨xs, hown, _⟩ := h
  exact Go.Proofs.YtdbflfakocaapaaDoor.own_ge hown
theorem Acc.own_lt {W : World} {lo lo2 : Nat} {ts : List Ty} {v : Value} (h : Acc W lo lo2 ts v) : ∀ k, v.ownBlock = some k → k < W.heap.size := by
  obtain ⟨xs, hown, _⟩ := h
  intro k hk
  rcases hown.2 with ⟨rfl, _⟩ | ⟨g, cap, cur, rfl, _, hh, _⟩
  · simp [Value.ownBlock] at hk
  · simp only [Value.ownBlock, Option.some.injEq] at hk
    subst hk
    rcases Nat.lt_or_ge g W.heap.size with hl | hl
    · exact hl
    · rw [Array.getElem?_eq_none hl] at hh; cases hh
theorem Acc.keep {W W' : World} {lo lo2 : Nat} {ts : List Ty} {v : Value} (h : Acc W lo lo2 ts v) (hs : W.heap.size ≤ W'.heap.size) (hk : ∀ b, b < W.heap.size → (lo2 ≤ b ∨ v.ownBlock = some b) → W'.heap[b]? = W.heap[b]?) : Acc W' lo lo2 ts v := by
  have hlt := h.own_lt
  obtain ⟨xs, hown, hel⟩ := h
  refine ⟨xs, ⟨hown.1, ?_⟩, fun i hi => ?_⟩
  · rcases hown.2 with h1 | ⟨g, cap, cur, hv, hg, hh, r⟩
    · exact .inl h1
    · refine .inr ⟨g, cap, cur, hv, hg, ?_, r⟩
      have hb : v.ownBlock = some g := by rw [hv]; rfl
      exact (hk g (hlt g hb) (.inr hb)).trans hh
  · obtain ⟨x0, x1, x2, x3, e0, e1, e2, e3, L, B, hL, hB, hr, ht⟩ := hel i hi
    exact ⟨x0, x1, x2, x3, e0, e1, e2, e3, L, B, hL, by omega, hr, ht.keep (fun b h1 h2 => hk b (by omega) (.inl (by omega))) (Nat.le_refl _) (Nat.le_refl _)⟩
theorem Acc.below {W W' : World} {lo lo2 : Nat} {ts : List Ty} {v : Value} (h : Acc W lo lo2 ts v) (hb : Below W.heap.size W W') : Acc W' lo lo2 ts v :=
  h.keep hb.size fun b hb' _ => hb.block b hb'
theorem Acc.grown {W W' : World} {lo lo2 sb : Nat} {ts : List Ty} {v : Value} (h : Acc W lo lo2 ts v) (hg : W.grownBy W' (some sb)) (h1 : sb < lo) (h2 : sb < lo2) : Acc W' lo lo2 ts v := by
  have hge := h.own_ge
  refine h.keep hg.size fun b hb' hh => hg.block b hb' ?_
  intro e
  injection e with e
  subst e
  rcases hh with hh | hh
  · omega
  · have := hge _ hh; omega
theorem Acc.push {W W' : World} {lo lo2 : Nat} {ts : List Ty} {v v' : Value} {t : Ty} {x0 x1 x2 x3 : Value} (xs : List Value)
    (hel : ∀ (i : Nat) (hi : i < ts.length), ∃ x0 x1 x2 x3, xs[i * 4]? = some x0 ∧ xs[i * 4 + 1]? = some x1 ∧ xs[i * 4 + 2]? = some x2 ∧ xs[i * 4 + 3]? = some x3 ∧ ElemOk W lo2 v.ownBlock ts[i] x0 x1 x2 x3)
    (hlen : xs.length = ts.length * 4) (ht : ElemOk W lo2 v.ownBlock t x0 x1 x2 x3) (hown : W'.ownsRow lo 25 4 v' (ts.length + 1) (xs ++ [x0, x1, x2, x3])) (hg : W.grownBy W' v.ownBlock)
    (hat : v'.ownBlock = v.ownBlock ∨ v'.ownBlock = some W.heap.size) : Acc W' lo lo2 (ts ++ [t]) v' := by
  have conv : ∀ {t : Ty} {y0 y1 y2 y3 : Value}, ElemOk W lo2 v.ownBlock t y0 y1 y2 y3 → ElemOk W' lo2 v'.ownBlock t y0 y1 y2 y3 := by
    intro t y0 y1 y2 y3 ⟨L, B, hL, hB, hr, hty⟩
    refine ⟨L, B, hL, Nat.le_trans hB hg.size, fun k hk => ?_, hty.keep (fun b h1 h2 => hg.block b (by omega) (fun e => ?_)) (Nat.le_refl _) (Nat.le_refl _)⟩
    · rcases hat with e | e
      · exact hr k (by rw [← e]; exact hk)
      · rw [e] at hk; injection hk with hk; omega
    · rcases hr b e.symm with h | h <;> omega
  refine ⟨xs ++ [x0, x1, x2, x3], by simpa using hown, fun i hi => ?_⟩
  by_cases hlt : i < ts.length
  · obtain ⟨y0, y1, y2, y3, e0, e1, e2, e3, he⟩ := hel i hlt
    refine ⟨y0, y1, y2, y3, ?_, ?_, ?_, ?_, ?_⟩
    · rw [List.getElem?_append_left (by omega)]; exact e0
    · rw [List.getElem?_append_left (by omega)]; exact e1
    · rw [List.getElem?_append_left (by omega)]; exact e2
    · rw [List.getElem?_append_left (by omega)]; exact e3
    · rw [List.getElem_append_left hlt]; exact conv he
  · have hi' : i = ts.length := by simp at hi; omega
    subst hi'
    refine ⟨x0, x1, x2, x3, ?_, ?_, ?_, ?_, ?_⟩
    · rw [List.getElem?_append_right (by omega), hlen]; simp
    · rw [List.getElem?_append_right (by omega), hlen]; simp
    · rw [List.getElem?_append_right (by omega), hlen]; simp
    · rw [List.getElem?_append_right (by omega), hlen]; simp
    · simp only [List.getElem_concat_length]
      exact conv ht
theorem Acc.isTyl {W : World} {lo lo2 m : Nat} {ts : List Ty} {v : Value} (h : Acc W lo lo2 ts v) (h1 : m ≤ lo) (h2 : m ≤ lo2) : IsTyl W m W.heap.size ts v := by
  have hlt := h.own_lt
  obtain ⟨xs, hown, hel⟩ := h
  rcases hown.2 with ⟨rfl, h0⟩ | ⟨g, cap, cur, rfl, hg, hh, hnc, hcm, hcs, htk⟩
  · exact ⟨none, 0, by rw [h0], by omega, .inl h0⟩
  · refine ⟨_, _, rfl, hnc, .inr ⟨g, 0, rfl, by omega, hlt g rfl, IsTys.of_all fun i hi => ?_⟩⟩
    obtain ⟨x0, x1, x2, x3, e0, e1, e2, e3, L, B, hL, hB, hr, ht⟩ := hel i hi
    have hc : ∀ j u, xs[j]? = some u → W.cell? ⟨g, j, none⟩ = some u := fun j u hu => by
      have := hown.cells (g := g) rfl j u hu
      simpa [Addr.add_lit] using this
    refine ⟨x0, x1, x2, x3, ?_, ?_, ?_, ?_, ht.more (by omega) hB⟩
    · rw [Nat.zero_add]; exact hc _ _ e0
    · rw [Nat.zero_add]; exact hc _ _ e1
    · rw [Nat.zero_add]; exact hc _ _ e2
    · rw [Nat.zero_add]; exact hc _ _ e3
end Go.Proofs.YtdbflfakocaapaaDoor
