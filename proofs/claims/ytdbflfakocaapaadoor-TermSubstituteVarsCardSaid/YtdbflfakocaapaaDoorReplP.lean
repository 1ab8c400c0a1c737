/- Plain: the width, the numbers and the depth of a term in which variables have been replaced. -/
import Derived.Test.YtdbflfakocaapaaDoorSub2
namespace Go.Proofs.YtdbflfakocaapaaDoor

/-- What f hands back is narrow, in range and at most M deep. -/
def RepGood (f : Int → Int → Ty ⊕ Int) (M : Nat) : Prop := ∀ ix d, 0 ≤ d → inI ix → match f ix d with
  | .inl t => t.nar ∧ t.ok ∧ t.depth ≤ M
  | .inr i => inI i
mutual
theorem repl_good {f : Int → Int → Ty ⊕ Int} {M : Nat} (hf : RepGood f M) : ∀ (t : Ty) (d : Int), t.nar → t.ok → 0 ≤ d → (t.repl f d).nar ∧ (t.repl f d).ok ∧ (t.repl f d).depth ≤ t.depth + M
  | ⟨k, nm, ix, args⟩, d, hn, ho, hd => by
    unfold Ty.nar at hn
    unfold Ty.ok at ho
    obtain ⟨h1, h2, h3⟩ := repls_good hf k args 0 d hn.2 ho.2.2 hd
    have hl := Ty.repls_len (f := f) k args 0 d
    rw [Ty.repl]
    by_cases hk : k = 5
    · rw [if_pos hk]
      have := hf ix d hd ho.2.1
      cases hfx : f ix d with
      | inl t => rw [hfx] at this; exact ⟨this.1, this.2.1, Nat.le_trans this.2.2 (Nat.le_add_left _ _)⟩
      | inr i =>
        rw [hfx] at this
        refine ⟨?_, ?_, ?_⟩
        · unfold Ty.nar; exact ⟨by rw [hl]; exact hn.1, h1⟩
        · unfold Ty.ok; exact ⟨ho.1, this, h2⟩
        · unfold Ty.depth; omega
    · rw [if_neg hk]
      refine ⟨?_, ?_, ?_⟩
      · unfold Ty.nar; exact ⟨by rw [hl]; exact hn.1, h1⟩
      · unfold Ty.ok; exact ⟨ho.1, ho.2.1, h2⟩
      · unfold Ty.depth; omega
theorem repls_good {f : Int → Int → Ty ⊕ Int} {M : Nat} (hf : RepGood f M) (k : Int) : ∀ (ts : List Ty) (i : Nat) (d : Int), Ty.nars ts → Ty.oks ts → 0 ≤ d → Ty.nars (Ty.repls f k ts i d) ∧ Ty.oks (Ty.repls f k ts i d) ∧ Ty.depths (Ty.repls f k ts i d) ≤ Ty.depths ts + M
  | [], i, d, _, _, _ => by unfold Ty.repls Ty.nars Ty.oks Ty.depths; exact ⟨trivial, trivial, by omega⟩
  | t :: ts, i, d, hn, ho, hd => by
    unfold Ty.nars at hn
    unfold Ty.oks at ho
    have hb := bindI_le k i
    obtain ⟨a1, a2, a3⟩ := repl_good hf t (d + bindI k i) hn.1 ho.1 (by omega)
    obtain ⟨b1, b2, b3⟩ := repls_good hf k ts (i + 1) d hn.2 ho.2 hd
    unfold Ty.repls Ty.nars Ty.oks Ty.depths
    exact ⟨⟨a1, b1⟩, ⟨a2, b2⟩, by omega⟩
 end
theorem fSub_good {b : Ty} (hn : b.nar) (ho : b.ok) : RepGood (fSub b) b.depth := by
  intro ix d hd hi
  unfold fSub
  unfold inI at hi ⊢
  by_cases h1 : ix = d
  · rw [if_pos h1]; exact ⟨hn, ho, Nat.le_refl _⟩
  · rw [if_neg h1]
    by_cases h2 : d < ix
    · rw [if_pos h2]; show _ ∧ _; omega
    · rw [if_neg h2]; exact hi
theorem fInst_good {l : List Ty} {M : Nat} (h : ∀ b ∈ l, b.nar ∧ b.ok ∧ b.depth ≤ M) : RepGood (fInst l) M := by
  intro ix d hd hi
  unfold fInst
  by_cases h1 : d ≤ ix
  · rw [if_pos h1]
    cases hg : l[(ix - d).toNat]? with
    | none => exact hi
    | some t => exact h t (List.mem_of_getElem? hg)
  · rw [if_neg h1]; exact hi
end Go.Proofs.YtdbflfakocaapaaDoor
