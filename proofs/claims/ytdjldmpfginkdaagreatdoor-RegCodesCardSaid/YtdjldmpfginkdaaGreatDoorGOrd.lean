/- A law for a region that draws its order: the operations ahead of its tail are gone through in one given order, under a condition S on the world that all of them keep; behind them the tail comes in the text's order, and S is not asked any more. No statement of the seat is proved here.
  A region that draws its order: a rule by an invariant that every operation keeps, whatever has come up before it.
  A law for a region that draws its order: each operation leaves a result of which a law K holds, in whatever order they come up; every operation keeps what lay in memory, so the laws stay true. Behind the head the tail comes in the text's order. No statement of the seat is proved here. -/
import Derived.Test.YtdjldmpfginkdaaGreatDoorRows
import Derived.OrdersHeld
import Derived.StillTail
import Derived.Deep.RegionHeld
import Derived.Test.YtdjldmpfginkdaaGreatDoorGBase
import Derived.RegionTactic
namespace Go.Proofs.YtdjldmpfginkdaaGreatDoor
open Go

section
variable {P : Program} {ops : Array Oper} {md : Region.Mode} {Q : Exit → Act → World → Prop} {S : World → Prop}

/-- Whatever order is picked for the first f operations, all below n: S holds behind each, and L at the end. -/
def wpAnyT (P : Program) (md : Region.Mode) (ops : Array Oper) (Q : Exit → Act → World → Prop) (S : World → Prop) (n : Nat) (L : Array Bool → Act → World → Prop) : Nat → Array Bool → Act → World → Prop
  | 0, listed, a, w => L listed a w
  | f + 1, listed, a, w => Region.ready md ops listed ≠ [] ∧ ∀ i ∈ Region.ready md ops listed, i < n ∧ wpOp P ops Q i (fun a' w' => S w' ∧ wpAnyT P md ops Q S n L f (listed.setIfInBounds i true) a' w') a w

theorem wpAny_of_T {n g : Nat} {L : Array Bool → Act → World → Prop} (hL : ∀ listed a w, L listed a w → wpAny P md ops Q g listed a w) :
    ∀ (f : Nat) (listed : Array Bool) (a : Act) (w : World), wpAnyT P md ops Q S n L f listed a w → wpAny P md ops Q (f + g) listed a w
  | 0, listed, a, w, h => by rw [Nat.zero_add]; exact hL _ _ _ h
  | f + 1, listed, a, w, h => by
    rw [show f + 1 + g = (f + g) + 1 by omega]
    exact ⟨fun h0 => absurd h0 h.1, fun i hi => wpOp_mono (fun a' w' h' => wpAny_of_T hL f _ a' w' h'.2) (h.2 i hi).2⟩

theorem wpAnyT_first {n i : Nat} {oi : Oper} {v : Value} {L : Array Bool → Act → World → Prop} (hi : ops[i]? = some oi) (hsel : ∀ (j : Nat) (o : Oper) cs b, ops[j]? = some o → o.op ≠ .select cs b)
    (hQ : ∀ c a w, Q (.panic c) (a.put oi.dst v) w → Q (.panic c) a w)
    (hs : Region.sinkB md ops n = true) (hc : Region.chainB md ops n = true) (hn : n < ops.size) (hin : i < n)
    (hdone : ∀ listed a w, L listed a w → ∀ j ∈ Region.ready md ops listed, n ≤ j) :
    ∀ (f : Nat) (listed : Array Bool) (a : Act) (w : World), HeadInv md ops n listed →
      (∀ j oj, ops[j]? = some oj → j ≠ i → listed.getD j true = false → (∀ e ∈ oj.after, Region.binds md e = true → e.on ≠ i) → oi.apart ops oj = true) →
      i ∈ Region.ready md ops listed → YieldsIf P ops S oi v a → S w →
      wpAnyT P md ops Q S n L f (listed.setIfInBounds i true) (a.put oi.dst v) w → wpAnyT P md ops Q S n L (f + 1) listed a w := by
  intro f
  induction f with
  | zero =>
    intro listed a w inv _ hr hy hS H
    have hun := (mem_ready.1 hr).1
    refine ⟨fun h => (by rw [h] at hr; cases hr), fun j hj => ?_⟩
    have hjn : j < n := by
      rcases Nat.lt_or_ge j n with h | h
      · exact h
      · exact absurd hj (tail_waits hs hc hn inv _ i rfl hin hun j h)
    refine ⟨hjn, ?_⟩
    by_cases hji : j = i
    · subst hji; exact hy.wpOp hi hS ⟨hS, H⟩
    · have := hdone _ _ _ H j (ready_mono hj hji)
      omega
  | succ f ih =>
    intro listed a w inv hfree hr hy hS H
    have hun := (mem_ready.1 hr).1
    refine ⟨fun h => (by rw [h] at hr; cases hr), fun j hj => ?_⟩
    have hjn : j < n := by
      rcases Nat.lt_or_ge j n with h | h
      · exact h
      · exact absurd hj (tail_waits hs hc hn inv _ i rfl hin hun j h)
    refine ⟨hjn, ?_⟩
    by_cases hji : j = i
    · subst hji; exact hy.wpOp hi hS ⟨hS, H⟩
    · have h1 := (H.2 j (ready_mono hj hji)).2
      obtain ⟨hjun, oj, hoj, hall⟩ := mem_ready.1 hj
      have hnot : ∀ e ∈ oj.after, Region.binds md e = true → e.on ≠ i := fun e he hb heq => by
        have h1 := hall e he hb
        rw [heq, getD_both hun] at h1
        cases h1
      have h2 := wpOp_putIf hoj (hfree j oj hoj hji hjun hnot) (fun cs b => hsel i oi cs b hi) (fun cs b => hsel j oj cs b hoj) hQ hy h1
      have hfree' : ∀ k ok, ops[k]? = some ok → k ≠ i → (listed.setIfInBounds j true).getD k true = false →
          (∀ e ∈ ok.after, Region.binds md e = true → e.on ≠ i) → oi.apart ops ok = true := fun k ok hk hki hun hno => by
        refine hfree k ok hk hki ?_ hno
        by_cases hjk : j = k
        · subst hjk; exact hjun
        · rw [getD_set_ne true hjk] at hun; exact hun
      refine wpOp_mono (fun a' w' h3 => ⟨h3.2.1, ih (listed.setIfInBounds j true) a' w' (inv.set hj hjn) hfree' (ready_mono hr (Ne.symm hji)) h3.1 h3.2.1 ?_⟩) h2
      rw [Array.setIfInBounds_comm _ _ hji]
      exact h3.2.2

/-- Is this an order of the head? (i, true): number i is taken first; (i, false): number i alone may come up. -/
def ordOk (md : Region.Mode) (ops : Array Oper) (n : Nat) : List (Nat × Bool) → Array Bool → Bool
  | [], listed => Region.seqB md ops (ops.size - n) n listed
  | (i, true) :: r, listed => decide (i < n) && (Region.ready md ops listed).contains i && Region.free md ops listed i && ordOk md ops n r (listed.setIfInBounds i true)
  | (i, false) :: r, listed => decide (i < n) && decide (Region.ready md ops listed = [i]) && ordOk md ops n r (listed.setIfInBounds i true)
def ordAll (md : Region.Mode) (ops : Array Oper) (n : Nat) (ord : List (Nat × Bool)) : Bool :=
  Region.noSelect ops && decide (n < ops.size) && decide (ord.length = n) && Region.sinkB md ops n && Region.chainB md ops n && ordOk md ops n ord (Array.replicate ops.size false)
/-- The operations in that order, written out. -/
def pickOps (l : List Oper) : List (Nat × Bool) → List (Bool × Oper)
  | [] => []
  | (i, b) :: r => match l[i]? with
    | some o => (b, o) :: pickOps l r
    | none => pickOps l r
/-- The walk in that order. -/
def wpOrd (P : Program) (ops : Array Oper) (Q : Exit → Act → World → Prop) (S : World → Prop) (T : Act → World → Prop) : List (Bool × Oper) → Act → World → Prop
  | [], a, w => T a w
  | (true, o) :: r, a, w => ∃ v, (∀ c a w, Q (.panic c) (a.put o.dst v) w → Q (.panic c) a w) ∧ YieldsIf P ops S o v a ∧ S w ∧ wpOrd P ops Q S T r (a.put o.dst v) w
  | (false, o) :: r, a, w => ∀ K' : Act → World → Prop, (∀ a w, S w → wpOrd P ops Q S T r a w → K' a w) → if Region.wanted o (yielded ops a.tmps) = true then Oper.wp P o a w K' Q else K' (a.put o.dst undef) w

theorem wpAnyT_ord {n : Nat} {T : Act → World → Prop} {l : List Oper} (hl : ops = l.toArray) (hsel : Region.noSelect ops = true) (hs : Region.sinkB md ops n = true) (hc : Region.chainB md ops n = true) (hn : n < ops.size) :
    ∀ (ord : List (Nat × Bool)) (listed : Array Bool) (a : Act) (w : World), HeadInv md ops n listed → ordOk md ops n ord listed = true → wpOrd P ops Q S T (pickOps l ord) a w →
    wpAnyT P md ops Q S n (fun listed' a' w' => Region.seqB md ops (ops.size - n) n listed' = true ∧ T a' w') ord.length listed a w
  | [], listed, a, w, _, hB, h => ⟨hB, h⟩
  | (i, true) :: r, listed, a, w, inv, hB, h => by
    simp only [ordOk, Bool.and_eq_true, decide_eq_true_eq] at hB
    obtain ⟨⟨⟨hin, hr⟩, hf⟩, hB'⟩ := hB
    have hr' : i ∈ Region.ready md ops listed := by simpa using hr
    obtain ⟨_, o, ho, _⟩ := mem_ready.1 hr'
    have ho' : l[i]? = some o := by rw [hl] at ho; simpa using ho
    simp only [pickOps, ho', wpOrd] at h
    obtain ⟨v, hQ, hy, hS, hK⟩ := h
    exact wpAnyT_first ho (Region.noSelect_spec hsel) hQ hs hc hn hin (fun listed' a' w' hL => seqB_ready hL.1) r.length listed a w inv (Region.free_spec ho hf) hr' hy hS
      (wpAnyT_ord hl hsel hs hc hn r _ _ _ (inv.set hr' hin) hB' hK)
  | (i, false) :: r, listed, a, w, inv, hB, h => by
    simp only [ordOk, Bool.and_eq_true, decide_eq_true_eq] at hB
    obtain ⟨⟨hin, hr⟩, hB'⟩ := hB
    have hr' : i ∈ Region.ready md ops listed := by rw [hr]; simp
    obtain ⟨_, o, ho, _⟩ := mem_ready.1 hr'
    have ho' : l[i]? = some o := by rw [hl] at ho; simpa using ho
    simp only [pickOps, ho', wpOrd] at h
    refine ⟨fun h0 => (by rw [h0] at hr'; cases hr'), fun j hj => ?_⟩
    rw [hr] at hj
    obtain rfl : j = i := by simpa using hj
    exact ⟨hin, wpOp_step ho (fun K' hK => h K' (fun a w hS hW => hK a w ⟨hS, wpAnyT_ord hl hsel hs hc hn r _ _ _ (inv.set hr' hin) hB' hW⟩))⟩

/-- THE LAW. -/
theorem wp_region_ord {id : Nat} {a : Act} {w : World} {l : List Oper} (S : World → Prop) (n : Nat) (ord : List (Nat × Bool)) (hm : P.follows .mixedOrders = true) (hB : ordAll .any l.toArray n ord = true) (hS : S w.drew)
    (h : S w.drew → wpOrd P l.toArray Q S (wpList P l.toArray Q (l.drop n)) (pickOps l ord) a w.drew) : (Code.region id l.toArray true).wp P Q a w := by
  simp only [ordAll, Bool.and_eq_true, decide_eq_true_eq] at hB
  obtain ⟨⟨⟨⟨⟨hsel, hn⟩, hlen⟩, hs⟩, hc⟩, hord⟩ := hB
  have hdl : (l.drop n).length = l.toArray.size - n := by simp
  have inv0 : HeadInv .any l.toArray n (Array.replicate l.toArray.size false) :=
    ⟨by simp, fun j oj _ hl => (by rw [getD_replicate_false] at hl; cases hl), fun t _ ht => getD_in (by simpa using ht) (getD_replicate_false _ _)⟩
  have H := wpAnyT_ord (md := .any) rfl hsel hs hc hn ord _ a w.drew inv0 hord (h hS)
  refine wp_region_any hm ?_
  have := wpAny_of_T (Q := Q) (g := l.toArray.size - n) (fun listed a' w' hL => by
    have := wpAny_of_seq (md := .any) (Q' := Q) (l.drop n) n listed a' w' (fun j => by simp [List.getElem?_drop]) (by rw [hdl]; exact hL.1) hL.2
    rwa [hdl] at this) _ _ _ _ H
  rw [hlen, show n + (l.toArray.size - n) = l.toArray.size by omega] at this
  exact this
theorem wpOrd_take {T : Act → World → Prop} {o : Oper} {r : List (Bool × Oper)} {v : Value} {a : Act} {w : World} (hQ : ∀ c a w, Q (.panic c) (a.put o.dst v) w → Q (.panic c) a w) (hy : YieldsIf P ops S o v a) (hS : S w) (h : wpOrd P ops Q S T r (a.put o.dst v) w) : wpOrd P ops Q S T ((true, o) :: r) a w :=
  ⟨v, hQ, hy, hS, h⟩
theorem wpOrd_do {T : Act → World → Prop} {o : Oper} {r : List (Bool × Oper)} {a : Act} {w : World} (h : ∀ K' : Act → World → Prop, Shut (∀ a w, S w → (S w → wpOrd P ops Q S T r a w) → K' a w) → if Region.wanted o (yielded ops a.tmps) = true then Oper.wp P o a w K' Q else K' (a.put o.dst undef) w) : wpOrd P ops Q S T ((false, o) :: r) a w :=
  fun K' hK => h K' (fun a w hS hW => hK a w hS (hW hS))
theorem wpOrd_end {T : Act → World → Prop} {a : Act} {w : World} (h : T a w) : wpOrd P ops Q S T [] a w := h
end
end Go.Proofs.YtdjldmpfginkdaaGreatDoor
namespace Go.Proofs.YtdjldmpfginkdaaGreatDoor
open Go.RowKit

theorem countP_set (l : List Bool) (i : Nat) (h : l[i]? = some false) : (l.set i true).countP (fun b => !b) + 1 = l.countP (fun b => !b) := by
  induction l generalizing i with
  | nil => simp at h
  | cons b l ih =>
    rcases i with _ | i
    · simp at h
      subst h
      simp
    · have := ih i (by simpa using h)
      simp only [List.set_cons_succ, List.countP_cons]
      omega

section
variable {P : Program} {ops : Array Oper} {Q : Exit → Act → World → Prop} {md : Region.Mode}
theorem ready_iff {listed : Array Bool} {i : Nat} : i ∈ Region.ready md ops listed ↔ ∃ o, ops[i]? = some o ∧ listed.getD i true = false ∧ ∀ e ∈ o.after, Region.binds md e = true → listed.getD e.on false = true := by
  unfold Region.ready
  simp only [List.mem_filter, List.mem_range, Bool.and_eq_true, Bool.not_eq_true']
  constructor
  · rintro ⟨h1, h2, h3⟩
    have ho : ops[i]? = some ops[i] := by simp [h1]
    refine ⟨ops[i], ho, h2, fun e he hb => ?_⟩
    rw [ho] at h3
    simp only [Option.map_some, Option.getD_some, Array.all_eq_true_iff_forall_mem, Bool.or_eq_true, Bool.not_eq_true'] at h3
    rcases h3 e he with h | h
    · rw [hb] at h; cases h
    · exact h
  · rintro ⟨o, ho, h2, h3⟩
    obtain ⟨hlt, rfl⟩ := Array.getElem?_eq_some_iff.1 ho
    refine ⟨hlt, h2, ?_⟩
    rw [ho]
    simp only [Option.map_some, Option.getD_some, Array.all_eq_true_iff_forall_mem, Bool.or_eq_true, Bool.not_eq_true']
    intro e he
    cases hb : Region.binds md e
    · exact .inl rfl
    · exact .inr (h3 e he hb)
theorem all_listed (hord : ∀ (i : Nat) (o : Oper), ops[i]? = some o → ∀ e ∈ o.after, e.on < i) {listed : Array Bool} (hs : listed.size = ops.size) (hr : Region.ready md ops listed = []) : ∀ i, i < ops.size → listed.getD i true = true := by
  intro i
  induction i using Nat.strongRecOn with
  | _ i ih =>
    intro hi
    cases hl : listed.getD i true with
    | true => rfl
    | false =>
      have ho : ops[i]? = some ops[i] := by simp [hi]
      have : i ∈ Region.ready md ops listed := ready_iff.2 ⟨ops[i], ho, hl, fun e he _ => by
        have h1 := hord i _ ho e he
        have h2 := ih e.on h1 (by omega)
        have h3 : e.on < listed.size := by omega
        simpa [Array.getD, h3] using h2⟩
      rw [hr] at this
      cases this
theorem wpAny_inv (Inv : Array Bool → Act → World → Prop) (hord : ∀ (i : Nat) (o : Oper), ops[i]? = some o → ∀ e ∈ o.after, e.on < i)
    (hstep : ∀ (i : Nat) (o : Oper) (listed : Array Bool) (a : Act) (w : World), ops[i]? = some o → listed.size = ops.size → (∀ e ∈ o.after, Region.binds md e = true → listed.getD e.on false = true) → Inv listed a w → wpOp P ops Q i (fun a' w' => Inv (listed.setIfInBounds i true) a' w') a w)
    (hdone : ∀ (listed : Array Bool) (a : Act) (w : World), (∀ i, i < ops.size → listed.getD i true = true) → listed.size = ops.size → Inv listed a w → Q .normal a w) :
    ∀ (fuel : Nat) (listed : Array Bool) (a : Act) (w : World), listed.size = ops.size → listed.toList.countP (fun b => !b) ≤ fuel → Inv listed a w → wpAny P md ops Q fuel listed a w := by
  intro fuel
  induction fuel with
  | zero =>
    intro listed a w hs hc hI
    have hall : ∀ i, i < ops.size → listed.getD i true = true := fun i hi => by
      have h0 : listed.toList.countP (fun b => !b) = 0 := by omega
      rw [List.countP_eq_zero] at h0
      have hi' : i < listed.size := by omega
      have := h0 listed[i] (by simp)
      simpa [Array.getD, hi'] using this
    refine ⟨?_, hdone listed a w hall hs hI⟩
    refine List.eq_nil_iff_forall_not_mem.2 fun i hi => ?_
    obtain ⟨o, ho, h2, _⟩ := ready_iff.1 hi
    obtain ⟨hlt, _⟩ := Array.getElem?_eq_some_iff.1 ho
    rw [hall i hlt] at h2
    cases h2
  | succ fuel ih =>
    intro listed a w hs hc hI
    refine ⟨fun hr => hdone listed a w (all_listed hord hs hr) hs hI, fun i hi => ?_⟩
    obtain ⟨o, ho, h2, h3⟩ := ready_iff.1 hi
    refine wpOp_mono (fun a' w' h => ih _ a' w' (by simpa using hs) ?_ h) (hstep i o listed a w ho hs h3 hI)
    obtain ⟨hlt, _⟩ := Array.getElem?_eq_some_iff.1 ho
    have hl : listed.toList[i]? = some false := by
      have hi' : i < listed.size := by omega
      simp [Array.getD, hi'] at h2
      simp [hi', h2]
    have := countP_set listed.toList i hl
    rw [Array.toList_setIfInBounds]
    omega
theorem wp_region_inv {id : Nat} {a : Act} {w : World} (hm : P.follows .mixedOrders = true) (Inv : Array Bool → Act → World → Prop) (hord : ∀ (i : Nat) (o : Oper), ops[i]? = some o → ∀ e ∈ o.after, e.on < i)
    (h0 : Inv (Array.replicate ops.size false) a w.drew)
    (hstep : ∀ (i : Nat) (o : Oper) (listed : Array Bool) (a : Act) (w : World), ops[i]? = some o → listed.size = ops.size → (∀ e ∈ o.after, Region.binds .any e = true → listed.getD e.on false = true) → Inv listed a w → wpOp P ops Q i (fun a' w' => Inv (listed.setIfInBounds i true) a' w') a w)
    (hdone : ∀ (listed : Array Bool) (a : Act) (w : World), (∀ i, i < ops.size → listed.getD i true = true) → listed.size = ops.size → Inv listed a w → Q .normal a w) : (Code.region id ops true).wp P Q a w :=
  wp_region_any hm (wpAny_inv Inv hord hstep hdone _ _ _ _ (by simp) (by have := List.countP_le_length (p := fun b => !b) (l := (Array.replicate ops.size false).toList); simpa using this) h0)
def ordB (ops : Array Oper) : Bool := (List.range ops.size).all fun i => ((ops[i]?).map (·.after.all fun e => decide (e.on < i))).getD true
theorem ord_of (h : ordB ops = true) : ∀ (i : Nat) (o : Oper), ops[i]? = some o → ∀ e ∈ o.after, e.on < i := by
  intro i o ho e he
  unfold ordB at h
  rw [List.all_eq_true] at h
  have h1 := h i (List.mem_range.2 (Array.getElem?_eq_some_iff.1 ho).1)
  rw [ho] at h1
  simp only [Option.map_some, Option.getD_some, Array.all_eq_true_iff_forall_mem, decide_eq_true_eq] at h1
  exact h1 e he
end
end Go.Proofs.YtdjldmpfginkdaaGreatDoor
namespace Go.Proofs.YtdjldmpfginkdaaGreatDoor
open Go Go.RowKit

/-- The act with the values vs in the operations' slots. -/
def actOf (a : Act) : List Oper → List Value → Act
  | o :: l, v :: vs => actOf (a.put o.dst v) l vs
  | _, _ => a
def origOf (a : Act) (o : Oper) : Value := match o.dst with
  | some d => a.tmps.getD d undef
  | none => undef
theorem put_self (a : Act) (o : Oper) : a.put o.dst (origOf a o) = a := by
  cases hd : o.dst with
  | none => rfl
  | some d =>
    have e1 : origOf a o = a.tmps.getD d undef := by unfold origOf; rw [hd]
    have : a.tmps.setIfInBounds d (a.tmps.getD d undef) = a.tmps := by
      apply Array.ext_getElem?
      intro i
      rw [Array.getElem?_setIfInBounds]
      split
      · rename_i h
        subst h
        split
        · rename_i h2
          simp [h2]
        · rename_i h2
          simp [Array.getElem?_eq_none (Nat.le_of_not_lt h2)]
      · rfl
    rw [e1]
    show ({ a with tmps := a.tmps.setIfInBounds d (a.tmps.getD d undef) } : Act) = a
    rw [this]
theorem actOf_self (a : Act) : ∀ l : List Oper, actOf a l (l.map (origOf a)) = a
  | [] => rfl
  | o :: l => by
    simp only [List.map_cons, actOf]
    rw [put_self]
    exact actOf_self a l
theorem put_put (a : Act) (d : Option Tmp) (v v' : Value) : (a.put d v).put d v' = a.put d v' := by
  cases d <;> simp [Act.put]
theorem put_comm (a : Act) {d d' : Option Tmp} (v v' : Value) (h : d ≠ d') : (a.put d v).put d' v' = (a.put d' v').put d v := by
  cases d with
  | none => rfl
  | some d =>
    cases d' with
    | none => rfl
    | some d' =>
      have : d ≠ d' := fun e => h (by rw [e])
      simp only [Act.put]
      rw [Array.setIfInBounds_comm _ _ this]
theorem actOf_put (d : Option Tmp) (v : Value) : ∀ (l : List Oper) (a : Act) (vs : List Value), (∀ o ∈ l, o.dst ≠ d) → (actOf a l vs).put d v = actOf (a.put d v) l vs
  | [], a, vs, _ => by cases vs <;> rfl
  | o :: l, a, [], _ => rfl
  | o :: l, a, u :: vs, h => by
    simp only [actOf]
    rw [actOf_put d v l _ vs fun o ho => h o (List.mem_cons_of_mem _ ho), put_comm _ _ _ (h o List.mem_cons_self)]
/-- No two operations write the same slot. -/
def apartB : List Oper → Bool
  | [] => true
  | o :: l => (l.all fun p => p.dst != o.dst) && apartB l
theorem actOf_set (v : Value) : ∀ (l : List Oper) (a : Act) (vs : List Value) (i : Nat) (o : Oper), apartB l = true → vs.length = l.length → l[i]? = some o → (actOf a l vs).put o.dst v = actOf a l (vs.set i v)
  | [], a, vs, i, o, _, _, h => by simp at h
  | p :: l, a, [], i, o, _, hl, h => by simp at hl
  | p :: l, a, u :: vs, 0, o, hB, hl, h => by
    simp only [List.getElem?_cons_zero, Option.some.injEq] at h
    subst h
    simp only [apartB, Bool.and_eq_true, List.all_eq_true, bne_iff_ne] at hB
    simp only [actOf, List.set_cons_zero]
    rw [actOf_put _ _ _ _ _ (fun q hq => hB.1 q hq), put_put]
  | p :: l, a, u :: vs, i + 1, o, hB, hl, h => by
    simp only [apartB, Bool.and_eq_true] at hB
    simp only [actOf, List.set_cons_succ]
    exact actOf_set v l _ vs i o hB.2 (by simpa using hl) (by simpa using h)

theorem len7 {vs : List Value} (h : vs.length = 7) : ∃ p0 p1 p2 p3 p4 p5 p6, vs = [p0, p1, p2, p3, p4, p5, p6] := by
  match vs, h with
  | [p0, p1, p2, p3, p4, p5, p6], _ => exact ⟨_, _, _, _, _, _, _, rfl⟩
section
variable {P : Program} {l : List Oper} {Q : Exit → Act → World → Prop}
/-- Does the operation wait for number i? -/
def waitsOn (o : Oper) (i : Nat) : Bool := o.after.any fun e => Region.binds .any e && e.on == i
/-- What is asked of the operations, one after the other. -/
def stepsVs (P : Program) (ops : Array Oper) (Q : Exit → Act → World → Prop) (K : Nat → Value → World → Prop) (hd : List Oper) (a0 : Act) (w0 : World) : Nat → List Oper → Prop
  | _, [] => True
  | i, o :: r => (∀ (vs : List Value) (W : World), vs.length = hd.length → Below w0.heap.size w0 W → (∀ (i : Nat) (v : Value), waitsOn o i = true → vs[i]? = some v → K i v W) →
      ∀ K' : Act → World → Prop, (∀ (v : Value) (W' : World), Below W.heap.size W W' → K i v W' → K' ((actOf a0 hd vs).put o.dst v) W') →
      if Region.wanted o (yielded ops (actOf a0 hd vs).tmps) = true then Oper.wp P o (actOf a0 hd vs) W K' Q else K' ((actOf a0 hd vs).put o.dst undef) W) ∧ stepsVs P ops Q K hd a0 w0 (i + 1) r
theorem stepsVs.get {ops : Array Oper} {K : Nat → Value → World → Prop} {hd : List Oper} {a0 : Act} {w0 : World} : ∀ {r : List Oper} {i : Nat}, stepsVs P ops Q K hd a0 w0 i r → ∀ (j : Nat) (o : Oper), r[j]? = some o → ∀ (vs : List Value) (W : World), vs.length = hd.length → Below w0.heap.size w0 W → (∀ (i : Nat) (v : Value), waitsOn o i = true → vs[i]? = some v → K i v W) →
      ∀ K' : Act → World → Prop, (∀ (v : Value) (W' : World), Below W.heap.size W W' → K (i + j) v W' → K' ((actOf a0 hd vs).put o.dst v) W') →
      if Region.wanted o (yielded ops (actOf a0 hd vs).tmps) = true then Oper.wp P o (actOf a0 hd vs) W K' Q else K' ((actOf a0 hd vs).put o.dst undef) W
  | [], i, _, j, o, h => by simp at h
  | p :: r, i, hs, 0, o, h => by
    simp only [List.getElem?_cons_zero, Option.some.injEq] at h
    subst h
    exact hs.1
  | p :: r, i, hs, j + 1, o, h => by
    have := stepsVs.get hs.2 j o (by simpa using h)
    rw [show i + 1 + j = i + (j + 1) by omega] at this
    exact this
def vsAll (ops : Array Oper) (n : Nat) : Bool :=
  decide (n < ops.size) && Region.sinkB .any ops n && Region.chainB .any ops n && ordB ops && apartB (ops.toList.take n) && Region.seqB .any ops (ops.size - n) n ((List.range ops.size).map fun j => decide (j < n)).toArray
theorem below_refl_drew {w : World} : Below w.heap.size w w.drew := below_drew w
theorem wpAnyT_vs {n : Nat} {K : Nat → Value → World → Prop} {a0 : Act} {w0 : World} (hB : vsAll l.toArray n = true) (hK : ∀ j v W W', K j v W → Below W.heap.size W W' → K j v W')
    (hstep : stepsVs P l.toArray Q K (l.take n) a0 w0 0 (l.take n))
    (hdone : ∀ (vs : List Value) (W : World), vs.length = (l.take n).length → Below w0.heap.size w0 W → (∀ j v, vs[j]? = some v → K j v W) → wpList P l.toArray Q (l.drop n) (actOf a0 (l.take n) vs) W) :
    ∀ (f : Nat) (listed : Array Bool) (vs : List Value) (W : World), HeadInv .any l.toArray n listed → (listed.toList.take n).countP (fun b => !b) = f → vs.length = (l.take n).length → Below w0.heap.size w0 W →
      (∀ j v, vs[j]? = some v → listed.getD j false = true → K j v W) →
      wpAnyT P .any l.toArray Q (fun _ => True) n (fun listed' a' w' => Region.seqB .any l.toArray (l.toArray.size - n) n listed' = true ∧ wpList P l.toArray Q (l.drop n) a' w') f listed (actOf a0 (l.take n) vs) W := by
  simp only [vsAll, Bool.and_eq_true, decide_eq_true_eq] at hB
  obtain ⟨⟨⟨⟨⟨hn, hs⟩, hc⟩, ho⟩, hap⟩, hseq⟩ := hB
  have hn' : n < l.length := by simpa using hn
  have hlt : (l.take n).length = n := by rw [List.length_take]; omega
  intro f
  induction f with
  | zero =>
    intro listed vs W inv hcnt hl hb hI
    have hall : ∀ i, i < n → listed.getD i true = true := fun i hi => by
      rw [List.countP_eq_zero] at hcnt
      have hi' : i < listed.size := by rw [inv.size]; simp; omega
      have := hcnt listed[i] (List.mem_of_getElem? (i := i) (by rw [List.getElem?_take, if_pos hi]; simp [hi']))
      simpa [Array.getD, hi'] using this
    have hfin : listed = ((List.range l.toArray.size).map fun j => decide (j < n)).toArray := by
      apply Array.ext
      · simp [inv.size]
      · intro i h1 h2
        have h3 : i < l.toArray.size := by rw [← inv.size]; exact h1
        simp only [List.getElem_toArray, List.getElem_map, List.getElem_range]
        by_cases hi : i < n
        · have := hall i hi
          simp only [Array.getD, h1, dif_pos] at this
          simp only [hi, decide_true]
          exact this
        · have := inv.tail i (by omega) h3
          simp only [Array.getD, h1, dif_pos] at this
          simp only [hi, decide_false]
          exact this
    refine ⟨by rw [hfin]; exact hseq, hdone vs W hl hb fun j v hv => hI j v hv ?_⟩
    have hj : j < n := by
      have := (List.getElem?_eq_some_iff.1 hv).1
      omega
    have h1 := hall j hj
    have h2 : j < listed.size := by rw [inv.size]; simp; omega
    simpa [Array.getD, h2] using h1
  | succ f ih =>
    intro listed vs W inv hcnt hl hb hI
    obtain ⟨j, hj, hun⟩ : ∃ j, j < n ∧ listed.getD j true = false := by
      apply Classical.byContradiction
      intro hne
      have : (listed.toList.take n).countP (fun b => !b) = 0 := by
        rw [List.countP_eq_zero]
        intro b hb2
        obtain ⟨i, hi, rfl⟩ := List.mem_iff_getElem.1 hb2
        rw [List.length_take] at hi
        rw [List.getElem_take]
        cases hbb : listed.toList[i] with
        | true => simp
        | false =>
          exfalso
          refine hne ⟨i, by omega, ?_⟩
          have : i < listed.size := by simpa using (show i < listed.toList.length by omega)
          simpa [Array.getD, this] using hbb
      omega
    refine ⟨fun h0 => ?_, fun i hi => ?_⟩
    · have := all_listed (ord_of ho) inv.size h0 j (by simp; omega)
      rw [this] at hun
      cases hun
    · have hin : i < n := by
        rcases Nat.lt_or_ge i n with h | h
        · exact h
        · exact absurd hi (tail_waits hs hc hn inv _ j rfl hj hun i h)
      refine ⟨hin, ?_⟩
      obtain ⟨o, hoi, hun2, hdeps⟩ := ready_iff.1 hi
      have hoi' : (l.take n)[i]? = some o := by
        rw [List.getElem?_take, if_pos hin]
        simpa using hoi
      refine wpOp_step hoi fun K' hK' => ?_
      refine stepsVs.get hstep i o hoi' vs W hl hb (fun i v hw hv => by
        obtain ⟨e, he, hb2⟩ := Array.any_eq_true'.1 hw
        simp only [Bool.and_eq_true, beq_iff_eq] at hb2
        obtain ⟨hb2, rfl⟩ := hb2
        exact hI _ _ hv (hdeps e he hb2)) K' fun v W' hbW hkv => hK' _ _ ⟨trivial, ?_⟩
      rw [actOf_set v _ _ _ i o hap hl hoi']
      rw [Nat.zero_add] at hkv
      refine ih _ _ W' (inv.set hi hin) ?_ (by simpa using hl) (below_step hb hbW) fun j u hu hlj => ?_
      · have h1 : (listed.toList.take n)[i]? = some false := by
          have hi' : i < listed.size := by rw [inv.size]; simp; omega
          rw [List.getElem?_take, if_pos hin]
          simpa [Array.getD, hi'] using hun2
        have h2 := countP_set (listed.toList.take n) i h1
        rw [Array.toList_setIfInBounds, List.take_set]
        omega
      · by_cases hij : j = i
        · subst hij
          have hjl : j < vs.length := by omega
          rw [List.getElem?_set_self hjl] at hu
          cases hu
          exact hkv
        · rw [List.getElem?_set_ne (fun e => hij e.symm)] at hu
          refine hK _ _ _ _ (hI j u hu ?_) hbW
          rw [Array.getD_eq_getD_getElem?, Array.getElem?_setIfInBounds_ne (fun e => hij e.symm), ← Array.getD_eq_getD_getElem?] at hlj
          exact hlj
/-- THE LAW. -/
theorem wp_region_vs {id : Nat} {a : Act} {w : World} (n : Nat) (K : Nat → Value → World → Prop) (hm : P.follows .mixedOrders = true) (hB : vsAll l.toArray n = true) (hK : ∀ j v W W', K j v W → Below W.heap.size W W' → K j v W')
    (hstep : stepsVs P l.toArray Q K (l.take n) a w.drew 0 (l.take n))
    (hdone : ∀ (vs : List Value) (W : World), vs.length = (l.take n).length → Below w.drew.heap.size w.drew W → (∀ j v, vs[j]? = some v → K j v W) → wpList P l.toArray Q (l.drop n) (actOf a (l.take n) vs) W) :
    (Code.region id l.toArray true).wp P Q a w := by
  have hB' := hB
  simp only [vsAll, Bool.and_eq_true, decide_eq_true_eq] at hB'
  obtain ⟨⟨⟨⟨⟨hn, _⟩, _⟩, _⟩, _⟩, _⟩ := hB'
  have hn' : n < l.length := by simpa using hn
  have inv0 : HeadInv .any l.toArray n (Array.replicate l.toArray.size false) :=
    ⟨by simp, fun j oj _ hl => (by rw [getD_replicate_false] at hl; cases hl), fun t _ ht => getD_in (by simpa using ht) (getD_replicate_false _ _)⟩
  have hcnt : ((Array.replicate l.toArray.size false).toList.take n).countP (fun b => !b) = n := by
    rw [Array.toList_replicate, List.take_replicate, List.countP_replicate]
    simp
    omega
  have H := wpAnyT_vs hB hK hstep hdone n _ ((l.take n).map (origOf a)) w.drew inv0 hcnt (by simp) (Below.refl _ _) (fun j v _ h => by rw [getD_replicate_false] at h; cases h)
  rw [actOf_self] at H
  have hdl : (l.drop n).length = l.toArray.size - n := by simp
  refine wp_region_any hm ?_
  have := wpAny_of_T (Q := Q) (g := l.toArray.size - n) (fun listed a' w' hL => by
    have := wpAny_of_seq (md := .any) (Q' := Q) (l.drop n) n listed a' w' (fun j => by simp [List.getElem?_drop]) (by rw [hdl]; exact hL.1) hL.2
    rwa [hdl] at this) _ _ _ _ H
  rw [show n + (l.toArray.size - n) = l.toArray.size by simp; omega] at this
  exact this
end
end Go.Proofs.YtdjldmpfginkdaaGreatDoor
