/- A region that draws its order: a rule by an invariant that every operation keeps, whatever has come up before it. -/
import Derived.Test.YtdbflfakocaapaaDoorHeld
import Derived.OrdersHeld
import Derived.RegionTactic
namespace Go.Proofs.YtdbflfakocaapaaDoor
open Go.RowKit

theorem countP_set (l : List Bool) (i : Nat) (h : l[i]? = some false) : (l.set i true).countP (fun b => !b) + 1 = l.countP (fun b => !b) := by
  induction l generalizing i with
  | nil => simp at h
  | cons b l ih =>
    rcases i with _ | i
    · simp at h
      subst h
      simp
    · have := ih i (by simpa using h)
      simp only [List.set_cons_succ, List.countP_cons]
      omega

section
variable {P : Program} {ops : Array Oper} {Q : Exit → Act → World → Prop} {md : Region.Mode}
theorem ready_iff {listed : Array Bool} {i : Nat} : i ∈ Region.ready md ops listed ↔ ∃ o, ops[i]? = some o ∧ listed.getD i true = false ∧ ∀ e ∈ o.after, Region.binds md e = true → listed.getD e.on false = true := by
  unfold Region.ready
  simp only [List.mem_filter, List.mem_range, Bool.and_eq_true, Bool.not_eq_true']
  constructor
  · rintro ⟨h1, h2, h3⟩
    have ho : ops[i]? = some ops[i] := by simp [h1]
    refine ⟨ops[i], ho, h2, fun e he hb => ?_⟩
    rw [ho] at h3
    simp only [Option.map_some, Option.getD_some, Array.all_eq_true_iff_forall_mem, Bool.or_eq_true, Bool.not_eq_true'] at h3
    rcases h3 e he with h | h
    · rw [hb] at h; cases h
    · exact h
  · rintro ⟨o, ho, h2, h3⟩
    obtain ⟨hlt, rfl⟩ := Array.getElem?_eq_some_iff.1 ho
    refine ⟨hlt, h2, ?_⟩
    rw [ho]
    simp only [Option.map_some, Option.getD_some, Array.all_eq_true_iff_forall_mem, Bool.or_eq_true, Bool.not_eq_true']
    intro e he
    cases hb : Region.binds md e
    · exact .inl rfl
    · exact .inr (h3 e he hb)
theorem all_listed (hord : ∀ (i : Nat) (o : Oper), ops[i]? = some o → ∀ e ∈ o.after, e.on < i) {listed : Array Bool} (hs : listed.size = ops.size) (hr : Region.ready md ops listed = []) : ∀ i, i < ops.size → listed.getD i true = true := by
  intro i
  induction i using Nat.strongRecOn with
  | _ i ih =>
    intro hi
    cases hl : listed.getD i true with
    | true => rfl
    | false =>
      have ho : ops[i]? = some ops[i] := by simp [hi]
      have : i ∈ Region.ready md ops listed := ready_iff.2 ⟨ops[i], ho, hl, fun e he _ => by
        have h1 := hord i _ ho e he
        have h2 := ih e.on h1 (by omega)
        have h3 : e.on < listed.size := by omega
        simpa [Array.getD, h3] using h2⟩
      rw [hr] at this
      cases this
theorem wpAny_inv (Inv : Array Bool → Act → World → Prop) (hord : ∀ (i : Nat) (o : Oper), ops[i]? = some o → ∀ e ∈ o.after, e.on < i)
    (hstep : ∀ (i : Nat) (o : Oper) (listed : Array Bool) (a : Act) (w : World), ops[i]? = some o → listed.size = ops.size → (∀ e ∈ o.after, Region.binds md e = true → listed.getD e.on false = true) → Inv listed a w → wpOp P ops Q i (fun a' w' => Inv (listed.setIfInBounds i true) a' w') a w)
    (hdone : ∀ (listed : Array Bool) (a : Act) (w : World), (∀ i, i < ops.size → listed.getD i true = true) → listed.size = ops.size → Inv listed a w → Q .normal a w) :
    ∀ (fuel : Nat) (listed : Array Bool) (a : Act) (w : World), listed.size = ops.size → listed.toList.countP (fun b => !b) ≤ fuel → Inv listed a w → wpAny P md ops Q fuel listed a w := by
  intro fuel
  induction fuel with
  | zero =>
    intro listed a w hs hc hI
    have hall : ∀ i, i < ops.size → listed.getD i true = true := fun i hi => by
      have h0 : listed.toList.countP (fun b => !b) = 0 := by omega
      rw [List.countP_eq_zero] at h0
      have hi' : i < listed.size := by omega
      have := h0 listed[i] (by simp)
      simpa [Array.getD, hi'] using this
    refine ⟨?_, hdone listed a w hall hs hI⟩
    refine List.eq_nil_iff_forall_not_mem.2 fun i hi => ?_
    obtain ⟨o, ho, h2, _⟩ := ready_iff.1 hi
    obtain ⟨hlt, _⟩ := Array.getElem?_eq_some_iff.1 ho
    rw [hall i hlt] at h2
    cases h2
  | succ fuel ih =>
    intro listed a w hs hc hI
    refine ⟨fun hr => hdone listed a w (all_listed hord hs hr) hs hI, fun i hi => ?_⟩
    obtain ⟨o, ho, h2, h3⟩ := ready_iff.1 hi
    refine wpOp_mono (fun a' w' h => ih _ a' w' (by simpa using hs) ?_ h) (hstep i o listed a w ho hs h3 hI)
    obtain ⟨hlt, _⟩ := Array.getElem?_eq_some_iff.1 ho
    have hl : listed.toList[i]? = some false := by
      have hi' : i < listed.size := by omega
      simp [Array.getD, hi'] at h2
      simp [hi', h2]
    have := countP_set listed.toList i hl
    rw [Array.toList_setIfInBounds]
    omega
theorem wp_region_inv {id : Nat} {a : Act} {w : World} (hm : P.follows .mixedOrders = true) (Inv : Array Bool → Act → World → Prop) (hord : ∀ (i : Nat) (o : Oper), ops[i]? = some o → ∀ e ∈ o.after, e.on < i)
    (h0 : Inv (Array.replicate ops.size false) a w.drew)
    (hstep : ∀ (i : Nat) (o : Oper) (listed : Array Bool) (a : Act) (w : World), ops[i]? = some o → listed.size = ops.size → (∀ e ∈ o.after, Region.binds .any e = true → listed.getD e.on false = true) → Inv listed a w → wpOp P ops Q i (fun a' w' => Inv (listed.setIfInBounds i true) a' w') a w)
    (hdone : ∀ (listed : Array Bool) (a : Act) (w : World), (∀ i, i < ops.size → listed.getD i true = true) → listed.size = ops.size → Inv listed a w → Q .normal a w) : (Code.region id ops true).wp P Q a w :=
  wp_region_any hm (wpAny_inv Inv hord hstep hdone _ _ _ _ (by simp) (by have := List.countP_le_length (p := fun b => !b) (l := (Array.replicate ops.size false).toList); simpa using this) h0)
def ordB (ops : Array Oper) : Bool := (List.range ops.size).all fun i => ((ops[i]?).map (·.after.all fun e => decide (e.on < i))).getD true
theorem ord_of (h : ordB ops = true) : ∀ (i : Nat) (o : Oper), ops[i]? = some o → ∀ e ∈ o.after, e.on < i := by
  intro i o ho e he
  unfold ordB at h
  rw [List.all_eq_true] at h
  have h1 := h i (List.mem_range.2 (Array.getElem?_eq_some_iff.1 ho).1)
  rw [ho] at h1
  simp only [Option.map_some, Option.getD_some, Array.all_eq_true_iff_forall_mem, decide_eq_true_eq] at h1
  exact h1 e he
end
end Go.Proofs.YtdbflfakocaapaaDoor
