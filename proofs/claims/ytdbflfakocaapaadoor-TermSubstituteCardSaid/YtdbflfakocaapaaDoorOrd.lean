/- A law for a region that draws its order: the operations ahead of its tail are gone through in one given order, under a condition S on the world that all of them keep; behind them the tail comes in the text's order, and S is not asked any more. No statement of the seat is proved here. -/
import Derived.Test.YtdbflfakocaapaaDoorRows
import Derived.OrdersHeld
import Derived.StillTail
import Derived.Deep.RegionHeld
namespace Go.Proofs.YtdbflfakocaapaaDoor
open Go

section
variable {P : Program} {ops : Array Oper} {md : Region.Mode} {Q : Exit → Act → World → Prop} {S : World → Prop}

/-- Whatever order is picked for the first f operations, all below n: S holds behind each, and L at the end. -/
def wpAnyT (P : Program) (md : Region.Mode) (ops : Array Oper) (Q : Exit → Act → World → Prop) (S : World → Prop) (n : Nat) (L : Array Bool → Act → World → Prop) : Nat → Array Bool → Act → World → Prop
  | 0, listed, a, w => L listed a w
  | f + 1, listed, a, w => Region.ready md ops listed ≠ [] ∧ ∀ i ∈ Region.ready md ops listed, i < n ∧ wpOp P ops Q i (fun a' w' => S w' ∧ wpAnyT P md ops Q S n L f (listed.setIfInBounds i true) a' w') a w

theorem wpAny_of_T {n g : Nat} {L : Array Bool → Act → World → Prop} (hL : ∀ listed a w, L listed a w → wpAny P md ops Q g listed a w) :
    ∀ (f : Nat) (listed : Array Bool) (a : Act) (w : World), wpAnyT P md ops Q S n L f listed a w → wpAny P md ops Q (f + g) listed a w
  | 0, listed, a, w, h => by rw [Nat.zero_add]; exact hL _ _ _ h
  | f + 1, listed, a, w, h => by
    rw [show f + 1 + g = (f + g) + 1 by omega]
    exact ⟨fun h0 => absurd h0 h.1, fun i hi => wpOp_mono (fun a' w' h' => wpAny_of_T hL f _ a' w' h'.2) (h.2 i hi).2⟩

theorem wpAnyT_first {n i : Nat} {oi : Oper} {v : Value} {L : Array Bool → Act → World → Prop} (hi : ops[i]? = some oi) (hsel : ∀ (j : Nat) (o : Oper) cs b, ops[j]? = some o → o.op ≠ .select cs b)
    (hQ : ∀ c a w, Q (.panic c) (a.put oi.dst v) w → Q (.panic c) a w)
    (hs : Region.sinkB md ops n = true) (hc : Region.chainB md ops n = true) (hn : n < ops.size) (hin : i < n)
    (hdone : ∀ listed a w, L listed a w → ∀ j ∈ Region.ready md ops listed, n ≤ j) :
    ∀ (f : Nat) (listed : Array Bool) (a : Act) (w : World), HeadInv md ops n listed →
      (∀ j oj, ops[j]? = some oj → j ≠ i → listed.getD j true = false → (∀ e ∈ oj.after, Region.binds md e = true → e.on ≠ i) → oi.apart ops oj = true) →
      i ∈ Region.ready md ops listed → YieldsIf P ops S oi v a → S w →
      wpAnyT P md ops Q S n L f (listed.setIfInBounds i true) (a.put oi.dst v) w → wpAnyT P md ops Q S n L (f + 1) listed a w := by
  intro f
  induction f with
  | zero =>
    intro listed a w inv _ hr hy hS H
    have hun := (mem_ready.1 hr).1
    refine ⟨fun h => (by rw [h] at hr; cases hr), fun j hj => ?_⟩
    have hjn : j < n := by
      rcases Nat.lt_or_ge j n with h | h
      · exact h
      · exact absurd hj (tail_waits hs hc hn inv _ i rfl hin hun j h)
    refine ⟨hjn, ?_⟩
    by_cases hji : j = i
    · subst hji; exact hy.wpOp hi hS ⟨hS, H⟩
    · have := hdone _ _ _ H j (ready_mono hj hji)
      omega
  | succ f ih =>
    intro listed a w inv hfree hr hy hS H
    have hun := (mem_ready.1 hr).1
    refine ⟨fun h => (by rw [h] at hr; cases hr), fun j hj => ?_⟩
    have hjn : j < n := by
      rcases Nat.lt_or_ge j n with h | h
      · exact h
      · exact absurd hj (tail_waits hs hc hn inv _ i rfl hin hun j h)
    refine ⟨hjn, ?_⟩
    by_cases hji : j = i
    · subst hji; exact hy.wpOp hi hS ⟨hS, H⟩
    · have h1 := (H.2 j (ready_mono hj hji)).2
      obtain ⟨hjun, oj, hoj, hall⟩ := mem_ready.1 hj
      have hnot : ∀ e ∈ oj.after, Region.binds md e = true → e.on ≠ i := fun e he hb heq => by
        have h1 := hall e he hb
        rw [heq, getD_both hun] at h1
        cases h1
      have h2 := wpOp_putIf hoj (hfree j oj hoj hji hjun hnot) (fun cs b => hsel i oi cs b hi) (fun cs b => hsel j oj cs b hoj) hQ hy h1
      have hfree' : ∀ k ok, ops[k]? = some ok → k ≠ i → (listed.setIfInBounds j true).getD k true = false →
          (∀ e ∈ ok.after, Region.binds md e = true → e.on ≠ i) → oi.apart ops ok = true := fun k ok hk hki hun hno => by
        refine hfree k ok hk hki ?_ hno
        by_cases hjk : j = k
        · subst hjk; exact hjun
        · rw [getD_set_ne true hjk] at hun; exact hun
      refine wpOp_mono (fun a' w' h3 => ⟨h3.2.1, ih (listed.setIfInBounds j true) a' w' (inv.set hj hjn) hfree' (ready_mono hr (Ne.symm hji)) h3.1 h3.2.1 ?_⟩) h2
      rw [Array.setIfInBounds_comm _ _ hji]
      exact h3.2.2

/-- Is this an order of the head? (i, true): number i is taken first; (i, false): number i alone may come up. -/
def ordOk (md : Region.Mode) (ops : Array Oper) (n : Nat) : List (Nat × Bool) → Array Bool → Bool
  | [], listed => Region.seqB md ops (ops.size - n) n listed
  | (i, true) :: r, listed => decide (i < n) && (Region.ready md ops listed).contains i && Region.free md ops listed i && ordOk md ops n r (listed.setIfInBounds i true)
  | (i, false) :: r, listed => decide (i < n) && decide (Region.ready md ops listed = [i]) && ordOk md ops n r (listed.setIfInBounds i true)
def ordAll (md : Region.Mode) (ops : Array Oper) (n : Nat) (ord : List (Nat × Bool)) : Bool :=
  Region.noSelect ops && decide (n < ops.size) && decide (ord.length = n) && Region.sinkB md ops n && Region.chainB md ops n && ordOk md ops n ord (Array.replicate ops.size false)
/-- The operations in that order, written out. -/
def pickOps (l : List Oper) : List (Nat × Bool) → List (Bool × Oper)
  | [] => []
  | (i, b) :: r => match l[i]? with
    | some o => (b, o) :: pickOps l r
    | none => pickOps l r
/-- The walk in that order. -/
def wpOrd (P : Program) (ops : Array Oper) (Q : Exit → Act → World → Prop) (S : World → Prop) (T : Act → World → Prop) : List (Bool × Oper) → Act → World → Prop
  | [], a, w => T a w
  | (true, o) :: r, a, w => ∃ v, (∀ c a w, Q (.panic c) (a.put o.dst v) w → Q (.panic c) a w) ∧ YieldsIf P ops S o v a ∧ S w ∧ wpOrd P ops Q S T r (a.put o.dst v) w
  | (false, o) :: r, a, w => ∀ K' : Act → World → Prop, (∀ a w, S w → wpOrd P ops Q S T r a w → K' a w) → if Region.wanted o (yielded ops a.tmps) = true then Oper.wp P o a w K' Q else K' (a.put o.dst undef) w

theorem wpAnyT_ord {n : Nat} {T : Act → World → Prop} {l : List Oper} (hl : ops = l.toArray) (hsel : Region.noSelect ops = true) (hs : Region.sinkB md ops n = true) (hc : Region.chainB md ops n = true) (hn : n < ops.size) :
    ∀ (ord : List (Nat × Bool)) (listed : Array Bool) (a : Act) (w : World), HeadInv md ops n listed → ordOk md ops n ord listed = true → wpOrd P ops Q S T (pickOps l ord) a w →
    wpAnyT P md ops Q S n (fun listed' a' w' => Region.seqB md ops (ops.size - n) n listed' = true ∧ T a' w') ord.length listed a w
  | [], listed, a, w, _, hB, h => ⟨hB, h⟩
  | (i, true) :: r, listed, a, w, inv, hB, h => by
    simp only [ordOk, Bool.and_eq_true, decide_eq_true_eq] at hB
    obtain ⟨⟨⟨hin, hr⟩, hf⟩, hB'⟩ := hB
    have hr' : i ∈ Region.ready md ops listed := by simpa using hr
    obtain ⟨_, o, ho, _⟩ := mem_ready.1 hr'
    have ho' : l[i]? = some o := by rw [hl] at ho; simpa using ho
    simp only [pickOps, ho', wpOrd] at h
    obtain ⟨v, hQ, hy, hS, hK⟩ := h
    exact wpAnyT_first ho (Region.noSelect_spec hsel) hQ hs hc hn hin (fun listed' a' w' hL => seqB_ready hL.1) r.length listed a w inv (Region.free_spec ho hf) hr' hy hS
      (wpAnyT_ord hl hsel hs hc hn r _ _ _ (inv.set hr' hin) hB' hK)
  | (i, false) :: r, listed, a, w, inv, hB, h => by
    simp only [ordOk, Bool.and_eq_true, decide_eq_true_eq] at hB
    obtain ⟨⟨hin, hr⟩, hB'⟩ := hB
    have hr' : i ∈ Region.ready md ops listed := by rw [hr]; simp
    obtain ⟨_, o, ho, _⟩ := mem_ready.1 hr'
    have ho' : l[i]? = some o := by rw [hl] at ho; simpa using ho
    simp only [pickOps, ho', wpOrd] at h
    refine ⟨fun h0 => (by rw [h0] at hr'; cases hr'), fun j hj => ?_⟩
    rw [hr] at hj
    obtain rfl : j = i := by simpa using hj
    exact ⟨hin, wpOp_step ho (fun K' hK => h K' (fun a w hS hW => hK a w ⟨hS, wpAnyT_ord hl hsel hs hc hn r _ _ _ (inv.set hr' hin) hB' hW⟩))⟩

/-- THE LAW. -/
theorem wp_region_ord {id : Nat} {a : Act} {w : World} {l : List Oper} (S : World → Prop) (n : Nat) (ord : List (Nat × Bool)) (hm : P.follows .mixedOrders = true) (hB : ordAll .any l.toArray n ord = true) (hS : S w.drew)
    (h : S w.drew → wpOrd P l.toArray Q S (wpList P l.toArray Q (l.drop n)) (pickOps l ord) a w.drew) : (Code.region id l.toArray true).wp P Q a w := by
  simp only [ordAll, Bool.and_eq_true, decide_eq_true_eq] at hB
  obtain ⟨⟨⟨⟨⟨hsel, hn⟩, hlen⟩, hs⟩, hc⟩, hord⟩ := hB
  have hdl : (l.drop n).length = l.toArray.size - n := by simp
  have inv0 : HeadInv .any l.toArray n (Array.replicate l.toArray.size false) :=
    ⟨by simp, fun j oj _ hl => (by rw [getD_replicate_false] at hl; cases hl), fun t _ ht => getD_in (by simpa using ht) (getD_replicate_false _ _)⟩
  have H := wpAnyT_ord (md := .any) rfl hsel hs hc hn ord _ a w.drew inv0 hord (h hS)
  refine wp_region_any hm ?_
  have := wpAny_of_T (Q := Q) (g := l.toArray.size - n) (fun listed a' w' hL => by
    have := wpAny_of_seq (md := .any) (Q' := Q) (l.drop n) n listed a' w' (fun j => by simp [List.getElem?_drop]) (by rw [hdl]; exact hL.1) hL.2
    rwa [hdl] at this) _ _ _ _ H
  rw [hlen, show n + (l.toArray.size - n) = l.toArray.size by omega] at this
  exact this
theorem wpOrd_take {T : Act → World → Prop} {o : Oper} {r : List (Bool × Oper)} {v : Value} {a : Act} {w : World} (hQ : ∀ c a w, Q (.panic c) (a.put o.dst v) w → Q (.panic c) a w) (hy : YieldsIf P ops S o v a) (hS : S w) (h : wpOrd P ops Q S T r (a.put o.dst v) w) : wpOrd P ops Q S T ((true, o) :: r) a w :=
  ⟨v, hQ, hy, hS, h⟩
theorem wpOrd_do {T : Act → World → Prop} {o : Oper} {r : List (Bool × Oper)} {a : Act} {w : World} (h : ∀ K' : Act → World → Prop, Shut (∀ a w, S w → (S w → wpOrd P ops Q S T r a w) → K' a w) → if Region.wanted o (yielded ops a.tmps) = true then Oper.wp P o a w K' Q else K' (a.put o.dst undef) w) : wpOrd P ops Q S T ((false, o) :: r) a w :=
  fun K' hK => h K' (fun a w hS hW => hK a w hS (hW hS))
theorem wpOrd_end {T : Act → World → Prop} {a : Act} {w : World} (h : T a w) : wpOrd P ops Q S T [] a w := h
end
end Go.Proofs.YtdbflfakocaapaaDoor
