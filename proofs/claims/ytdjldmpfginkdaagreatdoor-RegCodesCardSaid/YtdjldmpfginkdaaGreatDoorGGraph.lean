/- Plain: a finite graph has a rank function, or a set that goes on for ever.
  Register code as Lean data, and what chapter 27's functions compute of it: plain.
  Plain: two ways to find a cycle among the free nodes of a graph, as invariants of their loops. -/
import Derived.Test.YtdjldmpfginkdaaGreatDoorRows
import Derived.Test.YtdjldmpfginkdaaGreatDoorGBase
namespace Go.Proofs.YtdjldmpfginkdaaGreatDoor

/-- The free nodes below n have no cycle: there is a rank that grows along every edge between free nodes. -/
def Acyc (n : Nat) (free : Nat → Bool) (succ : Nat → List Nat) : Prop := ∃ ρ : Nat → Nat, ∀ i j, i < n → free i = true → j ∈ succ i → j < n → free j = true → ρ i < ρ j

theorem exists_min (S : Nat → Prop) (ρ : Nat → Nat) (h : ∃ i, S i) : ∃ i, S i ∧ ∀ j, S j → ρ i ≤ ρ j := by
  obtain ⟨i, hi⟩ := h
  have key : ∀ m i, S i → ρ i ≤ m → ∃ i, S i ∧ ∀ j, S j → ρ i ≤ ρ j := by
    intro m
    induction m with
    | zero => intro i hi hm; exact ⟨i, hi, fun j _ => by omega⟩
    | succ m ih =>
      intro i hi hm
      by_cases hlt : ∃ j, S j ∧ ρ j ≤ m
      · obtain ⟨j, hj, hjm⟩ := hlt
        exact ih j hj hjm
      · refine ⟨i, hi, fun j hj => ?_⟩
        rcases Nat.lt_or_ge m (ρ j) with h | h
        · omega
        · exact absurd ⟨j, hj, h⟩ hlt
  exact key (ρ i) i hi (Nat.le_refl _)
theorem exists_max (n : Nat) (S : Nat → Prop) (ρ : Nat → Nat) (hn : ∀ i, S i → i < n) (h : ∃ i, S i) : ∃ i, S i ∧ ∀ j, S j → ρ j ≤ ρ i := by
  have hb : ∃ B, ∀ i, i < n → ρ i ≤ B := by
    clear h hn
    induction n with
    | zero => exact ⟨0, fun i hi => by omega⟩
    | succ n ih =>
      obtain ⟨B, hB⟩ := ih
      refine ⟨max B (ρ n), fun i hi => ?_⟩
      by_cases h : i < n
      · have := hB i h; omega
      · obtain rfl : i = n := by omega
        omega
  obtain ⟨B, hB⟩ := hb
  obtain ⟨i, hi, hm⟩ := exists_min S (fun i => B - ρ i) h
  refine ⟨i, hi, fun j hj => ?_⟩
  have h1 := hm j hj
  have h2 := hB i (hn i hi)
  have h3 := hB j (hn j hj)
  omega
theorem not_acyc_pred {n : Nat} {free : Nat → Bool} {succ : Nat → List Nat} (S : Nat → Prop) (h : ∃ i, S i) (hS : ∀ j, S j → j < n ∧ free j = true ∧ ∃ i, S i ∧ j ∈ succ i) : ¬ Acyc n free succ := by
  rintro ⟨ρ, hρ⟩
  obtain ⟨j, hj, hm⟩ := exists_min S ρ h
  obtain ⟨h1, h2, i, hi, he⟩ := hS j hj
  have h3 := hρ i j (hS i hi).1 (hS i hi).2.1 he h1 h2
  have := hm i hi
  omega
theorem not_acyc_succ {n : Nat} {free : Nat → Bool} {succ : Nat → List Nat} (S : Nat → Prop) (h : ∃ i, S i) (hS : ∀ i, S i → i < n ∧ free i = true ∧ ∃ j, S j ∧ j ∈ succ i) : ¬ Acyc n free succ := by
  rintro ⟨ρ, hρ⟩
  obtain ⟨i, hi, hm⟩ := exists_max n S ρ (fun i hi => (hS i hi).1) h
  obtain ⟨h1, h2, j, hj, he⟩ := hS i hi
  have h3 := hρ i j h1 h2 he (hS j hj).1 (hS j hj).2.1
  have := hm j hj
  omega
/-- The nodes have gone one after the other, each behind all that it leads to. -/
theorem acyc_of_gone {n : Nat} {free : Nat → Bool} {succ : Nat → List Nat} (σ : Nat → Nat) (B : Nat) (hB : ∀ i, i < n → σ i ≤ B) (h : ∀ i j, i < n → free i = true → j ∈ succ i → j < n → free j = true → σ j < σ i) : Acyc n free succ :=
  ⟨fun i => B - σ i, fun i j hi hf he hj hfj => by
    have h1 := h i j hi hf he hj hfj
    have h2 := hB i hi
    have h3 := hB j hj
    show B - σ i < B - σ j
    omega⟩
end Go.Proofs.YtdjldmpfginkdaaGreatDoor
namespace Go.Proofs.YtdjldmpfginkdaaGreatDoor
open Go.RowKit

/-- The zero type. -/
def zeroTy : Ty := ⟨0, ⟨#[]⟩, 0, []⟩
/-- An instruction; of the constant's elements the number alone counts. -/
structure Ins where
  op : Int
  dst : Int
  a : Int
  b : Int
  imm : Int
  name : ByteArray
  args : List Int
  ty : Ty
  ck : Int
  ci : Int
  cs : ByteArray
  ce : Nat
structure Rc where
  params : Int
  classes : List Int
  instrs : List Ins
  edits : Nat

def oD (o : Int) : Bool := decide (o = 1 ∨ o = 2 ∨ o = 3 ∨ o = 4 ∨ o = 5 ∨ o = 6 ∨ o = 7 ∨ o = 8 ∨ o = 9 ∨ o = 10 ∨ o = 12 ∨ o = 13 ∨ o = 14 ∨ o = 15 ∨ o = 16 ∨ o = 27)
def oA (o : Int) : Bool := decide (o = 2 ∨ o = 3 ∨ o = 4 ∨ o = 5 ∨ o = 6 ∨ o = 7 ∨ o = 8 ∨ o = 10 ∨ o = 11 ∨ o = 13 ∨ o = 14 ∨ o = 18 ∨ o = 20 ∨ o = 21 ∨ o = 24)
def oB (o imm : Int) : Bool := decide (o = 5 ∨ o = 6 ∨ o = 11 ∨ (o = 8 ∧ imm ≠ 5))
def oI (o : Int) : Bool := decide (o = 5 ∨ o = 8 ∨ o = 13 ∨ o = 17 ∨ o = 18 ∨ o = 22 ∨ o = 25 ∨ o = 27)
def oN (o : Int) : Bool := decide (o = 10 ∨ o = 11 ∨ o = 15 ∨ o = 16)
def oL (o : Int) : Bool := decide (o = 9 ∨ o = 12 ∨ o = 15 ∨ o = 16 ∨ o = 27)
def oT (o : Int) : Bool := decide (o = 9 ∨ o = 14)
def oC (o : Int) : Bool := decide (o = 1)
def oTick (o : Int) : Bool := decide (o = 19 ∨ o = 15 ∨ o = 16 ∨ o = 27 ∨ o = 25)

/-- The class of register n, or -1. -/
def clsAt (l : List Int) (n : Int) : Int := if n < 0 then -1 else match l[n.toNat]? with
  | some c => c
  | none => -1
def Rc.cls (r : Rc) (n : Int) : Int := clsAt r.classes n
/-- A constant that may stand in an instruction. -/
def txtTo (s : ByteArray) (j : Nat) : Bool := (s.data.toList.take j).all fun c => decide (32 ≤ (c.toNat : Int) ∧ (c.toNat : Int) ≤ 126)
def txtB (s : ByteArray) : Bool := txtTo s s.size
theorem txtTo_zero (s : ByteArray) : txtTo s 0 = true := by simp [txtTo]
theorem txtTo_succ (s : ByteArray) (j : Nat) (h : j < s.size) : txtTo s (j + 1) = (txtTo s j && decide (32 ≤ (s[j].toNat : Int) ∧ (s[j].toNat : Int) ≤ 126)) := by
  unfold txtTo
  rw [List.take_succ_eq_append_getElem (by simpa using h), List.all_append]
  simp
  rfl
theorem txtTo_false (s : ByteArray) (j : Nat) (h : j < s.size) (hf : ¬ (32 ≤ (s[j].toNat : Int) ∧ (s[j].toNat : Int) ≤ 126)) : txtB s = false := by
  unfold txtB txtTo
  rw [List.all_eq_false]
  refine ⟨s[j], ?_, by simpa using hf⟩
  rw [List.take_of_length_le (by simp)]
  exact List.getElem_mem (l := s.data.toList) (by simpa using h)
def litF (ck ci : Int) (cs : ByteArray) (ce : Nat) : Bool := decide (ce = 0) && (decide (ck = 0 ∧ ci = 0 ∧ cs.size = 0) || decide (ck = 1 ∧ cs.size = 0) || decide (ck = 2 ∧ cs.size = 0 ∧ (ci = 0 ∨ ci = 1)) || (decide (ck = 3 ∧ ci = 0 ∧ cs.size ≤ 2000) && txtB cs))
def litB (x : Ins) : Bool := litF x.ck x.ci x.cs x.ce
def isZ (ck ci : Int) (cs : ByteArray) (ce : Nat) : Bool := decide (ck = 0 ∧ ci = 0 ∧ cs.size = 0 ∧ ce = 0)
def zeroC (x : Ins) : Bool := isZ x.ck x.ci x.cs x.ce
def Ty.zero (t : Ty) : Bool := decide (t.kind = 0 ∧ t.name.size = 0 ∧ t.index = 0 ∧ t.args.length = 0)
/-- The registers exist and have the classes that the operation wants. -/
def fitB (r : Rc) (x : Ins) : Bool :=
  let d := r.cls x.dst; let a := r.cls x.a; let b := r.cls x.b
  if x.op = 1 then decide (d = 0 ∨ (d = 1 ∧ x.ck = 1) ∨ (d = 2 ∧ x.ck = 2))
  else if x.op = 2 then decide (0 ≤ d ∧ d = a)
  else if x.op = 3 then decide (d = 0 ∧ (a = 1 ∨ a = 2))
  else if x.op = 4 then decide ((d = 1 ∨ d = 2) ∧ a = 0)
  else if x.op = 5 then decide (d = 1 ∧ a = 1 ∧ b = 1)
  else if x.op = 6 then decide (d = 2 ∧ a = 1 ∧ b = 1)
  else if x.op = 7 then decide (d = 2 ∧ a = 2)
  else if x.op = 14 then decide (d = 2 ∧ a = 0)
  else if x.op = 18 then decide (a = 2)
  else x.args.all (fun n => decide (r.cls n = 0)) && (!oD x.op || decide (d = 0)) && (!oA x.op || decide (a = 0)) && (!oB x.op x.imm || decide (b = 0))
/-- The number fits. -/
def immF (op imm : Int) (n e : Nat) : Bool :=
  if op = 17 ∨ op = 18 then decide (0 ≤ imm ∧ imm < n)
  else if op = 5 then decide (1 ≤ imm ∧ imm ≤ 3)
  else if op = 8 then decide (1 ≤ imm ∧ imm ≤ 7)
  else if op = 13 then decide (0 ≤ imm ∧ imm < 6)
  else if op = 22 then decide (0 ≤ imm ∧ imm < e)
  else if op = 25 ∨ op = 27 then decide (1 ≤ imm)
  else decide (imm = 0)
def immB (r : Rc) (x : Ins) : Bool := immF x.op x.imm r.instrs.length r.edits
/-- An instruction may stand in the code. -/
def insB (r : Rc) (x : Ins) : Bool :=
  decide (1 ≤ x.op ∧ x.op ≤ 27) && (oD x.op || decide (x.dst = 0)) && (oA x.op || decide (x.a = 0)) && (oB x.op x.imm || decide (x.b = 0)) && (oN x.op || decide (x.name.size = 0)) && (oL x.op || decide (x.args.length = 0)) && (oC x.op || zeroC x) &&
  (if oT x.op then decide (x.ty.validate = 0) && x.ty.closed 0 else x.ty.zero) && (!oC x.op || litB x) && (!oN x.op || isIdent x.name) && decide (x.args.length ≤ 6) && fitB r x && immB r x
/-- Where instruction i goes on. -/
def Rc.succ (r : Rc) (i : Nat) : List Nat := match r.instrs[i]? with
  | none => []
  | some x => if x.op = 17 then [x.imm.toNat] else if x.op = 21 ∨ x.op = 24 then [] else if x.op = 18 then (if x.imm = i + 1 then [i + 1] else if x.imm < i + 1 then [x.imm.toNat, i + 1] else [i + 1, x.imm.toNat]) else [i + 1]
def Rc.free (r : Rc) (i : Nat) : Bool := match r.instrs[i]? with
  | none => false
  | some x => !oTick x.op
/-- The answer of Validate. -/
def Rc.Ok (r : Rc) : Prop := r.instrs.length ≤ 20000 ∧ r.classes.length ≤ 1000 ∧ 0 ≤ r.params ∧ r.params ≤ 6 ∧ r.params ≤ r.classes.length ∧ 0 < r.instrs.length ∧
  (∀ (i : Nat) (c : Int), r.classes[i]? = some c → 0 ≤ c ∧ c ≤ 2 ∧ ((i : Int) < r.params → c = 0)) ∧ (∀ x ∈ r.instrs, insB r x = true) ∧
  (∃ x, r.instrs[r.instrs.length - 1]? = some x ∧ (x.op = 17 ∨ x.op = 21 ∨ x.op = 24)) ∧ Acyc r.instrs.length r.free r.succ
noncomputable def Rc.validate (r : Rc) : Int := open Classical in if 20000 < r.instrs.length ∨ 1000 < r.classes.length then 4 else if r.Ok then 0 else 2
end Go.Proofs.YtdjldmpfginkdaaGreatDoor
namespace Go.Proofs.YtdjldmpfginkdaaGreatDoor

/-- The sum of f over the numbers below n. -/
def Sm (f : Nat → Nat) : Nat → Nat
  | 0 => 0
  | n + 1 => Sm f n + f n
theorem Sm_congr {f g : Nat → Nat} : ∀ {n : Nat}, (∀ i, i < n → f i = g i) → Sm f n = Sm g n
  | 0, _ => rfl
  | n + 1, h => by rw [Sm, Sm, Sm_congr (fun i hi => h i (by omega)), h n (by omega)]
theorem Sm_zero {f : Nat → Nat} : ∀ {n : Nat}, Sm f n = 0 → ∀ i, i < n → f i = 0
  | 0, _, i, hi => by omega
  | n + 1, h, i, hi => by
    rw [Sm] at h
    rcases Nat.lt_or_ge i n with h1 | h1
    · exact Sm_zero (by omega) i h1
    · obtain rfl : i = n := by omega
      omega
theorem Sm_le {f : Nat → Nat} {b : Nat} : ∀ {n : Nat}, (∀ i, i < n → f i ≤ b) → Sm f n ≤ b * n
  | 0, _ => by simp [Sm]
  | n + 1, h => by
    have h1 := Sm_le (n := n) (fun i hi => h i (by omega))
    have h2 := h n (by omega)
    rw [Sm, Nat.mul_succ]
    omega
theorem Sm_pos {f : Nat → Nat} : ∀ {n : Nat}, 0 < Sm f n → ∃ i, i < n ∧ 0 < f i
  | 0, h => by simp [Sm] at h
  | n + 1, h => by
    rw [Sm] at h
    rcases Nat.eq_zero_or_pos (f n) with h1 | h1
    · obtain ⟨i, hi, h2⟩ := Sm_pos (f := f) (n := n) (by omega)
      exact ⟨i, by omega, h2⟩
    · exact ⟨n, by omega, h1⟩
/-- One node of the kind is taken out. -/
theorem Sm_erase {q : Nat → Bool} {f : Nat → Nat} {a : Nat} (ha : q a = true) : ∀ {n : Nat}, a < n → Sm (fun i => if q i = true then f i else 0) n = f a + Sm (fun i => if (q i && i != a) = true then f i else 0) n
  | 0, h => by omega
  | n + 1, h => by
    rw [Sm, Sm]
    rcases Nat.lt_or_ge a n with h1 | h1
    · rw [Sm_erase ha h1]
      have e : (n != a) = true := by simp; omega
      rw [e, Bool.and_true]
      omega
    · obtain rfl : a = n := by omega
      have e : (a != a) = false := by simp
      rw [ha, e, Bool.and_false, if_pos rfl]
      have e2 : Sm (fun i => if q i = true then f i else 0) a = Sm (fun i => if (q i && i != a) = true then f i else 0) a := Sm_congr fun i hi => by
        have e3 : (i != a) = true := by simp; omega
        rw [e3, Bool.and_true]
      rw [e2]
      simp
      omega

section
variable {n : Nat} {free : Nat → Bool} {succ : Nat → List Nat}

/-- The edges into j from free nodes that have not gone. -/
def inE (n : Nat) (free : Nat → Bool) (succ : Nat → List Nat) (gone : Nat → Bool) (j : Nat) : Nat := Sm (fun i => if (free i && !gone i) = true then (succ i).count j else 0) n
def leftE (n : Nat) (free gone : Nat → Bool) : Nat := Sm (fun i => if (free i && !gone i) = true then 1 else 0) n
theorem leftE_le (n : Nat) (free gone : Nat → Bool) : leftE n free gone ≤ n := by
  have := Sm_le (n := n) (b := 1) (f := fun i => if (free i && !gone i) = true then 1 else 0) (fun i _ => by split <;> omega)
  unfold leftE
  rw [Nat.one_mul] at this
  exact this
def goneAt (gone : Nat → Bool) (a : Nat) : Nat → Bool := fun i => gone i || i == a
theorem goneAt_not (gone : Nat → Bool) (a i : Nat) (q : Bool) : (q && !goneAt gone a i) = ((q && !gone i) && i != a) := by
  unfold goneAt
  cases q <;> cases gone i <;> simp [bne]
theorem inE_pop {gone : Nat → Bool} {a : Nat} (ha : a < n) (hf : free a = true) (hg : gone a = false) (j : Nat) : inE n free succ gone j = (succ a).count j + inE n free succ (goneAt gone a) j := by
  unfold inE
  rw [Sm_erase (q := fun i => free i && !gone i) (a := a) (by simp [hf, hg]) ha]
  congr 1
  exact Sm_congr fun i _ => by rw [goneAt_not]
theorem leftE_pop {gone : Nat → Bool} {a : Nat} (ha : a < n) (hf : free a = true) (hg : gone a = false) : leftE n free gone = 1 + leftE n free (goneAt gone a) := by
  unfold leftE
  rw [Sm_erase (q := fun i => free i && !gone i) (f := fun _ => 1) (a := a) (by simp [hf, hg]) ha]
  congr 1
  exact Sm_congr fun i _ => by rw [goneAt_not]

/-- Kahn's way: what holds of the counts, of the nodes that wait, and of those that have gone. pend: the edges of the node that has gone last and has not been dealt with. -/
structure Kahn (n : Nat) (free : Nat → Bool) (succ : Nat → List Nat) (gone : Nat → Bool) (σ : Nat → Nat) (T : Nat) (pend : List Nat) (ps : List Nat) (work : List Nat) : Prop where
  len : ps.length = n
  cnt : ∀ j, j < n → ps[j]? = some (inE n free succ gone j + pend.count j)
  nod : work.Nodup
  mem : ∀ j, j ∈ work ↔ (j < n ∧ free j = true ∧ gone j = false ∧ ps[j]? = some 0)
  gz : ∀ j, j < n → gone j = true → ps[j]? = some 0
  ord : ∀ i j, i < n → free i = true → j ∈ succ i → j < n → free j = true → gone j = true → gone i = true ∧ σ i < σ j
  bd : ∀ i, gone i = true → σ i < T
theorem Kahn.start {ps work : List Nat} (h1 : ps.length = n) (h2 : ∀ j, j < n → ps[j]? = some (inE n free succ (fun _ => false) j)) (h3 : work = (List.range n).filter fun j => free j && ps[j]? == some 0) :
    Kahn n free succ (fun _ => false) (fun _ => 0) 0 [] ps work := by
  refine ⟨h1, fun j hj => by rw [h2 j hj]; simp, ?_, ?_, by simp, by simp, by simp⟩
  · rw [h3]; exact List.nodup_range.filter _
  · intro j
    rw [h3, List.mem_filter, List.mem_range]
    simp
theorem Kahn.pop {gone : Nat → Bool} {σ : Nat → Nat} {T a : Nat} {ps work : List Nat} (h : Kahn n free succ gone σ T [] ps (work ++ [a])) :
    a < n ∧ free a = true ∧ gone a = false ∧ Kahn n free succ (goneAt gone a) (fun i => if i = a then T else σ i) (T + 1) (succ a) ps work := by
  obtain ⟨ha, hf, hg, hz⟩ := (h.mem a).1 (by simp)
  have hin : inE n free succ gone a = 0 := by
    have := (h.cnt a ha).symm.trans hz
    simpa using this
  have hno : ∀ i, i < n → free i = true → a ∈ succ i → gone i = true := fun i hi hfi hm => by
    cases hgi : gone i
    · have := Sm_zero hin i hi
      simp only [hfi, hgi, Bool.not_false, Bool.and_true, if_true, List.count_eq_zero] at this
      exact absurd hm this
    · rfl
  refine ⟨ha, hf, hg, h.len, ?_, ?_, ?_, ?_, ?_, ?_⟩
  · intro j hj
    rw [h.cnt j hj, inE_pop ha hf hg]
    simp [Nat.add_comm]
  · exact (List.nodup_append.1 h.nod).1
  · intro j
    have hd := (List.nodup_append.1 h.nod).2.2
    constructor
    · intro hj
      obtain ⟨h1, h2, h3, h4⟩ := (h.mem j).1 (by simp [hj])
      refine ⟨h1, h2, ?_, h4⟩
      have : j ≠ a := hd j hj a (by simp)
      simp [goneAt, h3, this]
    · rintro ⟨h1, h2, h3, h4⟩
      simp only [goneAt, Bool.or_eq_false_iff, beq_eq_false_iff_ne] at h3
      have := (h.mem j).2 ⟨h1, h2, h3.1, h4⟩
      simp only [List.mem_append, List.mem_singleton] at this
      rcases this with h5 | h5
      · exact h5
      · exact absurd h5 h3.2
  · intro j hj hgj
    simp only [goneAt, Bool.or_eq_true, beq_iff_eq] at hgj
    rcases hgj with hgj | rfl
    · exact h.gz j hj hgj
    · exact hz
  · intro i j hi hfi hm hj hfj hgj
    simp only [goneAt, Bool.or_eq_true, beq_iff_eq] at hgj
    by_cases hja : j = a
    · subst hja
      have h1 := hno i hi hfi hm
      have h2 := h.bd i h1
      have h3 : i ≠ j := fun e => by rw [e, hg] at h1; cases h1
      refine ⟨by simp [goneAt, h1], ?_⟩
      rw [if_neg h3, if_pos rfl]
      exact h2
    · have hgj' : gone j = true := by
        rcases hgj with h5 | h5
        · exact h5
        · exact absurd h5 hja
      obtain ⟨h1, h2⟩ := h.ord i j hi hfi hm hj hfj hgj'
      have h3 : i ≠ a := fun e => by rw [e, hg] at h1; cases h1
      refine ⟨by simp [goneAt, h1], ?_⟩
      rw [if_neg h3, if_neg hja]
      exact h2
  · intro i hi
    simp only [goneAt, Bool.or_eq_true, beq_iff_eq] at hi
    by_cases hia : i = a
    · rw [if_pos hia]; omega
    · rw [if_neg hia]
      rcases hi with h5 | h5
      · have := h.bd i h5; omega
      · exact absurd h5 hia
/-- One edge of the node that has gone. -/
theorem Kahn.edge {gone : Nat → Bool} {σ : Nat → Nat} {T x : Nat} {pend ps work : List Nat} (h : Kahn n free succ gone σ T (x :: pend) ps work) (hx : x < n) :
    ∃ p, ps[x]? = some (p + 1) ∧ ((p ≠ 0 ∨ free x = false) → Kahn n free succ gone σ T pend (ps.set x p) work) ∧ (p = 0 → free x = true → Kahn n free succ gone σ T pend (ps.set x p) (work ++ [x])) := by
  have hc := h.cnt x hx
  have hcount : (x :: pend).count x = pend.count x + 1 := by simp
  rw [hcount] at hc
  have hlen := h.len
  have hgx : gone x = false := by
    cases hg : gone x
    · rfl
    · have := (h.gz x hx hg).symm.trans hc
      simp at this
  have hnw : x ∉ work := fun hm => by
    have := ((h.mem x).1 hm).2.2.2.symm.trans hc
    simp at this
  refine ⟨inE n free succ gone x + pend.count x, hc, ?_, ?_⟩
  all_goals
    intro h1
  · have hset : ∀ j, j < n → (ps.set x (inE n free succ gone x + pend.count x))[j]? = some (inE n free succ gone j + pend.count j) := fun j hj => by
      by_cases hjx : j = x
      · subst hjx; simp [hlen, hj]
      · rw [List.getElem?_set_ne (fun e => hjx e.symm), h.cnt j hj, List.count_cons_of_ne (fun e => hjx e.symm)]
    refine ⟨by simp [hlen], hset, h.nod, fun j => ?_, fun j hj hg => ?_, h.ord, h.bd⟩
    · rw [h.mem j]
      constructor
      · rintro ⟨a1, a2, a3, a4⟩
        refine ⟨a1, a2, a3, ?_⟩
        have hjx : j ≠ x := fun e => by rw [e, hc] at a4; simp at a4
        rw [List.getElem?_set_ne (fun e => hjx e.symm)]; exact a4
      · rintro ⟨a1, a2, a3, a4⟩
        refine ⟨a1, a2, a3, ?_⟩
        by_cases hjx : j = x
        · subst hjx
          rw [hset j a1] at a4
          rcases h1 with h1 | h1
          · exact absurd (by simpa using a4) h1
          · rw [h1] at a2; cases a2
        · rw [List.getElem?_set_ne (fun e => hjx e.symm)] at a4; exact a4
    · have hjx : j ≠ x := fun e => by rw [e, hgx] at hg; cases hg
      rw [List.getElem?_set_ne (fun e => hjx e.symm)]; exact h.gz j hj hg
  · intro h2
    have hset : ∀ j, j < n → (ps.set x (inE n free succ gone x + pend.count x))[j]? = some (inE n free succ gone j + pend.count j) := fun j hj => by
      by_cases hjx : j = x
      · subst hjx; simp [hlen, hj]
      · rw [List.getElem?_set_ne (fun e => hjx e.symm), h.cnt j hj, List.count_cons_of_ne (fun e => hjx e.symm)]
    refine ⟨by simp [hlen], hset, ?_, fun j => ?_, fun j hj hg => ?_, h.ord, h.bd⟩
    · rw [List.nodup_append]
      refine ⟨h.nod, by simp, fun a ha b hb => ?_⟩
      simp only [List.mem_singleton] at hb
      subst hb
      exact fun e => hnw (e ▸ ha)
    · rw [List.mem_append, List.mem_singleton, h.mem j]
      constructor
      · rintro (⟨a1, a2, a3, a4⟩ | rfl)
        · refine ⟨a1, a2, a3, ?_⟩
          have hjx : j ≠ x := fun e => by rw [e, hc] at a4; simp at a4
          rw [List.getElem?_set_ne (fun e => hjx e.symm)]; exact a4
        · exact ⟨hx, h2, hgx, by rw [hset j hx, h1]⟩
      · rintro ⟨a1, a2, a3, a4⟩
        by_cases hjx : j = x
        · exact .inr hjx
        · exact .inl ⟨a1, a2, a3, by rw [List.getElem?_set_ne (fun e => hjx e.symm)] at a4; exact a4⟩
    · have hjx : j ≠ x := fun e => by rw [e, hgx] at hg; cases hg
      rw [List.getElem?_set_ne (fun e => hjx e.symm)]; exact h.gz j hj hg
theorem Kahn.done {gone : Nat → Bool} {σ : Nat → Nat} {T : Nat} {ps : List Nat} (h : Kahn n free succ gone σ T [] ps []) : (0 < leftE n free gone) ↔ ¬ Acyc n free succ := by
  constructor
  · intro hl
    obtain ⟨i, hi, hp⟩ := Sm_pos hl
    refine not_acyc_pred (fun i => i < n ∧ free i = true ∧ gone i = false) ⟨i, hi, ?_⟩ ?_
    · cases hf : free i <;> cases hg : gone i <;> simp [hf, hg] at hp ⊢
    · rintro j ⟨hj, hf, hg⟩
      refine ⟨hj, hf, ?_⟩
      have hne : ps[j]? ≠ some 0 := fun e => by
        have := (h.mem j).2 ⟨hj, hf, hg, e⟩
        cases this
      have hc := h.cnt j hj
      rcases Nat.eq_zero_or_pos (inE n free succ gone j) with h0 | h0
      · rw [h0] at hc; exact absurd hc hne
      · obtain ⟨i, hi, hp⟩ := Sm_pos h0
        by_cases hq : (free i && !gone i) = true
        · rw [if_pos hq] at hp
          simp only [Bool.and_eq_true, Bool.not_eq_true'] at hq
          exact ⟨i, ⟨hi, hq.1, hq.2⟩, List.count_pos_iff.1 hp⟩
        · rw [if_neg hq] at hp; omega
  · intro hna
    rcases Nat.eq_zero_or_pos (leftE n free gone) with h0 | h0
    · exfalso
      apply hna
      have hall : ∀ i, i < n → free i = true → gone i = true := fun i hi hf => by
        have := Sm_zero h0 i hi
        cases hg : gone i
        · simp [hf, hg] at this
        · rfl
      exact ⟨σ, fun i j hi hfi hm hj hfj => (h.ord i j hi hfi hm hj hfj (hall j hj hfj)).2⟩
    · exact h0

/-- The other way: a node goes when all that it leads to has gone or is not free. -/
structure Spin (n : Nat) (free : Nat → Bool) (succ : Nat → List Nat) (gone : List Bool) (σ : Nat → Nat) (T : Nat) : Prop where
  len : gone.length = n
  ord : ∀ i j, i < n → gone[i]? = some true → free i = true → j ∈ succ i → j < n → free j = true → gone[j]? = some true ∧ σ j < σ i
  bd : ∀ i, gone[i]? = some true → σ i < T
/-- Node i leads on to a free node that has not gone. -/
def openE (free : Nat → Bool) (succ : Nat → List Nat) (gone : List Bool) (i : Nat) : Prop := free i = true ∧ ∃ j ∈ succ i, gone[j]? = some false ∧ free j = true
theorem Spin.start (n : Nat) (free : Nat → Bool) (succ : Nat → List Nat) : Spin n free succ (List.replicate n false) (fun _ => 0) 0 := by
  have h : ∀ i, ¬ (List.replicate n false)[i]? = some true := fun i e => by
    rw [List.getElem?_replicate] at e
    split at e <;> cases e
  exact ⟨by simp, fun i j _ e => absurd e (h i), fun i e => absurd e (h i)⟩
theorem Spin.remove {gone : List Bool} {σ : Nat → Nat} {T i : Nat} (h : Spin n free succ gone σ T) (hi : i < n) (hg : gone[i]? = some false) (ho : ¬ openE free succ gone i) :
    Spin n free succ (gone.set i true) (fun k => if k = i then T else σ k) (T + 1) := by
  have hl := h.len
  have hs : ∀ k, (gone.set i true)[k]? = some true ↔ (k = i ∨ gone[k]? = some true) := fun k => by
    by_cases hk : k = i
    · subst hk; simp [hl, hi]
    · rw [List.getElem?_set_ne (fun e => hk e.symm)]; simp [hk]
  refine ⟨by simp [hl], ?_, ?_⟩
  · intro a b ha hga hfa hm hb hfb
    rw [hs] at hga
    by_cases hai : a = i
    · subst hai
      have hgb : gone[b]? = some true := by
        cases hq : gone[b]? with
        | none => rw [List.getElem?_eq_none_iff] at hq; omega
        | some q =>
          cases q
          · exact absurd ⟨hfa, b, hm, hq, hfb⟩ ho
          · rfl
      have hba : b ≠ a := fun e => by rw [e, hg] at hgb; cases hgb
      refine ⟨(hs b).2 (.inr hgb), ?_⟩
      rw [if_neg hba, if_pos rfl]
      exact h.bd b hgb
    · have hga' : gone[a]? = some true := by
        rcases hga with h1 | h1
        · exact absurd h1 hai
        · exact h1
      obtain ⟨h1, h2⟩ := h.ord a b ha hga' hfa hm hb hfb
      have hbi : b ≠ i := fun e => by rw [e, hg] at h1; cases h1
      refine ⟨(hs b).2 (.inr h1), ?_⟩
      rw [if_neg hbi, if_neg hai]
      exact h2
  · intro k hk
    rw [hs] at hk
    by_cases hki : k = i
    · rw [if_pos hki]; omega
    · rw [if_neg hki]
      rcases hk with h1 | h1
      · exact absurd h1 hki
      · have := h.bd k h1; omega
theorem count_pos_get {l : List Bool} (h : 0 < l.count false) : ∃ i : Nat, l[i]? = some false := by
  have := List.count_pos_iff.1 h
  exact List.mem_iff_getElem?.1 this
theorem count_zero_get {l : List Bool} (h : l.count false = 0) {i : Nat} (hi : i < l.length) : l[i]? = some true := by
  have h1 := List.count_eq_zero.1 h
  rw [List.getElem?_eq_getElem hi]
  cases hq : l[i]
  · exact absurd (hq ▸ List.getElem_mem hi) h1
  · rfl
theorem count_set {l : List Bool} {i : Nat} (h : l[i]? = some false) : l.count false = (l.set i true).count false + 1 := by
  induction l generalizing i with
  | nil => simp at h
  | cons a l ih =>
    rcases i with _ | i
    · simp at h; subst h; simp
    · have := ih (i := i) (by simpa using h)
      simp only [List.set_cons_succ, List.count_cons]
      omega
theorem Spin.all {gone : List Bool} {σ : Nat → Nat} {T : Nat} (h : Spin n free succ gone σ T) (h0 : gone.count false = 0) : Acyc n free succ := by
  have hg : ∀ i, i < n → gone[i]? = some true := fun i hi => count_zero_get h0 (by rw [h.len]; exact hi)
  exact acyc_of_gone σ T (fun i hi => Nat.le_of_lt (h.bd i (hg i hi))) fun i j hi hf hm hj hfj => (h.ord i j hi (hg i hi) hf hm hj hfj).2
theorem Spin.stuck {gone : List Bool} (hl : gone.length = n) (h0 : 0 < gone.count false) (ho : ∀ i, gone[i]? = some false → openE free succ gone i) : ¬ Acyc n free succ := by
  have hlt : ∀ i, gone[i]? = some false → i < n := fun i h => by
    rw [← hl]
    exact (List.getElem?_eq_some_iff.1 h).1
  refine not_acyc_succ (fun i => gone[i]? = some false) (count_pos_get h0) fun i hi => ⟨hlt i hi, (ho i hi).1, ?_⟩
  obtain ⟨_, j, hm, hj, _⟩ := ho i hi
  exact ⟨j, hj, hm⟩
end
end Go.Proofs.YtdjldmpfginkdaaGreatDoor
