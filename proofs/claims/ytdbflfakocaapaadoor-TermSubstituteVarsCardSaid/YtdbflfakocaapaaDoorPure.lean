/- What the functions of chapter 2 compute, in plain Lean: measures, free variables, plainness, well-formedness. -/
import Derived.Test.YtdbflfakocaapaaDoorTy
namespace Go.Proofs.YtdbflfakocaapaaDoor
open Go.RowKit

mutual
def Ty.depth : Ty → Nat
  | ⟨_, _, _, args⟩ => Ty.depths args + 1
def Ty.depths : List Ty → Nat
  | [] => 0
  | t :: ts => max (Ty.depth t) (Ty.depths ts)
 end
theorem Ty.depth_eq (t : Ty) : t.depth = Ty.depths t.args + 1 := by cases t; rw [Ty.depth]
theorem Ty.depths_take {ts : List Ty} (j : Nat) (hj : j < ts.length) : Ty.depths (ts.take (j + 1)) = max (Ty.depths (ts.take j)) (Ty.depth ts[j]) := by
  induction ts generalizing j with
  | nil => simp at hj
  | cons t ts ih =>
    rcases j with _ | j
    · simp [Ty.depths]
    · have := ih j (by simpa using hj)
      simp [Ty.depths] at this ⊢
      omega
mutual
theorem Ty.depth_le : ∀ t : Ty, t.depth ≤ t.size
  | ⟨_, _, _, args⟩ => by unfold Ty.depth Ty.size; have := Ty.depths_le args; omega
theorem Ty.depths_le : ∀ ts : List Ty, Ty.depths ts ≤ Ty.sizes ts
  | [] => by simp [Ty.depths]
  | t :: ts => by unfold Ty.depths Ty.sizes; have := Ty.depth_le t; have := Ty.depths_le ts; omega
 end

/-- The numbers of a term are numbers of Go's int. -/
def inI (n : Int) : Prop := -9223372036854775808 ≤ n ∧ n ≤ 9223372036854775807
mutual
def Ty.ok : Ty → Prop
  | ⟨k, _, ix, args⟩ => inI k ∧ inI ix ∧ Ty.oks args
def Ty.oks : List Ty → Prop
  | [] => True
  | t :: ts => Ty.ok t ∧ Ty.oks ts
 end
theorem Ty.ok_eq (t : Ty) : t.ok = (inI t.kind ∧ inI t.index ∧ Ty.oks t.args) := by cases t; rw [Ty.ok]
theorem Ty.ok_get {ts : List Ty} (h : Ty.oks ts) (j : Nat) (hj : j < ts.length) : Ty.ok ts[j] := by
  induction ts generalizing j with
  | nil => simp at hj
  | cons t ts ih =>
    unfold Ty.oks at h
    rcases j with _ | j
    · exact h.1
    · exact ih h.2 j (by simpa using hj)
theorem Ty.oks_of {ts : List Ty} (h : ∀ t ∈ ts, Ty.ok t) : Ty.oks ts := by
  induction ts with
  | nil => unfold Ty.oks; trivial
  | cons t ts ih => unfold Ty.oks; exact ⟨h t (by simp), ih fun x hx => h x (by simp [hx])⟩

def bindI (k : Int) (i : Nat) : Int := if k = 6 ∧ i = 1 then 1 else 0
theorem bindI_le (k : Int) (i : Nat) : 0 ≤ bindI k i ∧ bindI k i ≤ 1 := by unfold bindI; split <;> omega

mutual
def Ty.closed : Ty → Int → Bool
  | ⟨k, _, ix, args⟩, d => !(k == 5 && decide (d ≤ ix)) && Ty.closeds k args 0 d
def Ty.closeds (k : Int) : List Ty → Nat → Int → Bool
  | [], _, _ => true
  | t :: ts, i, d => Ty.closed t (d + bindI k i) && Ty.closeds k ts (i + 1) d
 end
theorem Ty.closed_eq (t : Ty) (d : Int) : t.closed d = (!(t.kind == 5 && decide (d ≤ t.index)) && Ty.closeds t.kind t.args 0 d) := by cases t; rw [Ty.closed]
theorem Ty.closeds_iff (k : Int) (ts : List Ty) (i : Nat) (d : Int) : Ty.closeds k ts i d = true ↔ ∀ (j : Nat) (hj : j < ts.length), ts[j].closed (d + bindI k (i + j)) = true := by
  induction ts generalizing i with
  | nil => simp [Ty.closeds]
  | cons t ts ih =>
    rw [Ty.closeds, Bool.and_eq_true, ih]
    constructor
    · rintro ⟨h1, h2⟩ j hj
      rcases j with _ | j
      · simpa using h1
      · have := h2 j (by simpa using hj)
        simpa [Nat.add_assoc, Nat.add_comm 1 j] using this
    · intro h
      refine ⟨h 0 (by simp), fun j hj => ?_⟩
      have := h (j + 1) (by simpa using hj)
      simpa [Nat.add_assoc, Nat.add_comm 1 j] using this

mutual
def Ty.fvs : Ty → Int → List Int
  | ⟨k, _, ix, args⟩, d => (if k = 5 ∧ d ≤ ix then [ix - d] else []) ++ Ty.fvss k args 0 d
def Ty.fvss (k : Int) : List Ty → Nat → Int → List Int
  | [], _, _ => []
  | t :: ts, i, d => Ty.fvs t (d + bindI k i) ++ Ty.fvss k ts (i + 1) d
 end
theorem Ty.fvs_eq (t : Ty) (d : Int) : t.fvs d = (if t.kind = 5 ∧ d ≤ t.index then [t.index - d] else []) ++ Ty.fvss t.kind t.args 0 d := by cases t; rw [Ty.fvs]
theorem Ty.fvss_take (k : Int) (ts : List Ty) (i : Nat) (d : Int) (j : Nat) (hj : j < ts.length) : Ty.fvss k (ts.take (j + 1)) i d = Ty.fvss k (ts.take j) i d ++ Ty.fvs ts[j] (d + bindI k (i + j)) := by
  induction ts generalizing i j with
  | nil => simp at hj
  | cons t ts ih =>
    rcases j with _ | j
    · simp [Ty.fvss]
    · have := ih (i + 1) j (by simpa using hj)
      simp [Ty.fvss, this, Nat.add_assoc, Nat.add_comm 1 j]
mutual
theorem Ty.closed_fvs : ∀ (t : Ty) (d : Int), t.closed d = true ↔ t.fvs d = []
  | ⟨k, _, ix, args⟩, d => by
    rw [Ty.closed, Ty.fvs, Bool.and_eq_true, List.append_eq_nil_iff, Ty.closeds_fvss k args 0 d]
    by_cases h : k = 5 ∧ d ≤ ix
    · simp [h]
    · simp [h]
      omega
theorem Ty.closeds_fvss (k : Int) : ∀ (ts : List Ty) (i : Nat) (d : Int), Ty.closeds k ts i d = true ↔ Ty.fvss k ts i d = []
  | [], _, _ => by simp [Ty.closeds, Ty.fvss]
  | t :: ts, i, d => by rw [Ty.closeds, Ty.fvss, Bool.and_eq_true, List.append_eq_nil_iff, Ty.closed_fvs t, Ty.closeds_fvss k ts]
 end

/-- Insertion into a sorted set. -/
def ins (x : Int) : List Int → List Int
  | [] => [x]
  | y :: ys => if y < x then y :: ins x ys else if y = x then y :: ys else x :: y :: ys
def insAll (l xs : List Int) : List Int := xs.foldl (fun l x => ins x l) l
theorem insAll_append (l xs ys : List Int) : insAll l (xs ++ ys) = insAll (insAll l xs) ys := by simp [insAll]
theorem ins_len (x : Int) (l : List Int) : l.length ≤ (ins x l).length ∧ (ins x l).length ≤ l.length + 1 ∧ 1 ≤ (ins x l).length := by
  induction l with
  | nil => simp [ins]
  | cons y ys ih =>
    unfold ins
    split
    · simp; omega
    · split <;> simp
theorem insAll_len (l xs : List Int) : l.length ≤ (insAll l xs).length ∧ (insAll l xs).length ≤ l.length + xs.length := by
  induction xs generalizing l with
  | nil => simp [insAll]
  | cons x xs ih =>
    have h1 := ih (ins x l)
    have h2 := ins_len x l
    simp only [insAll, List.foldl_cons, List.length_cons] at h1 ⊢
    omega
theorem insAll_nil (xs : List Int) : insAll [] xs = [] ↔ xs = [] := by
  rcases xs with _ | ⟨x, xs⟩
  · simp [insAll]
  · have h := insAll_len (ins x []) xs
    have h2 := ins_len x []
    constructor
    · intro e
      have : insAll [] (x :: xs) = insAll (ins x []) xs := rfl
      rw [this] at e
      rw [e] at h
      simp at h
      rw [h] at h2
      simp at h2
    · intro e; cases e
theorem ins_mem (x y : Int) (l : List Int) : y ∈ ins x l ↔ y = x ∨ y ∈ l := by
  induction l with
  | nil => simp [ins]
  | cons z zs ih =>
    unfold ins
    split
    · simp [ih]; constructor <;> (rintro (h | h | h) <;> simp [h])
    · split
      · rename_i h; subst h; simp
      · simp
theorem ins_sorted (x : Int) (l : List Int) (h : l.Pairwise (· < ·)) : (ins x l).Pairwise (· < ·) := by
  induction l with
  | nil => simp [ins]
  | cons z zs ih =>
    obtain ⟨h1, h2⟩ := List.pairwise_cons.1 h
    unfold ins
    split
    · refine List.pairwise_cons.2 ⟨fun y hy => ?_, ih h2⟩
      rcases (ins_mem x y zs).1 hy with e | e
      · omega
      · exact h1 y e
    · split
      · exact h
      · refine List.pairwise_cons.2 ⟨fun y hy => ?_, h⟩
        rcases List.mem_cons.1 hy with e | e
        · omega
        · have := h1 y e; omega
theorem insAll_sorted (l xs : List Int) (h : l.Pairwise (· < ·)) : (insAll l xs).Pairwise (· < ·) := by
  induction xs generalizing l with
  | nil => exact h
  | cons x xs ih => exact ih _ (ins_sorted x l h)
theorem insAll_mem (y : Int) (l xs : List Int) : y ∈ insAll l xs ↔ y ∈ l ∨ y ∈ xs := by
  induction xs generalizing l with
  | nil => simp [insAll]
  | cons x xs ih =>
    have : insAll l (x :: xs) = insAll (ins x l) xs := rfl
    rw [this, ih, ins_mem, List.mem_cons]
    constructor
    · rintro ((h | h) | h)
      · exact .inr (.inl h)
      · exact .inl h
      · exact .inr (.inr h)
    · rintro (h | h | h)
      · exact .inl (.inr h)
      · exact .inl (.inl h)
      · exact .inr h
/-- Where x goes: behind the smaller ones. -/
theorem ins_split (x : Int) (l : List Int) (h : l.Pairwise (· < ·)) (hx : x ∉ l) : ins x l = l.take (l.countP (· < x)) ++ x :: l.drop (l.countP (· < x)) := by
  induction l with
  | nil => simp [ins]
  | cons z zs ih =>
    obtain ⟨h1, h2⟩ := List.pairwise_cons.1 h
    have hx' : ¬ x = z ∧ x ∉ zs := ⟨fun e => hx (by simp [e]), fun e => hx (by simp [e])⟩
    unfold ins
    split
    · rename_i hz
      rw [List.countP_cons_of_pos (by simpa using hz), ih h2 hx'.2]
      simp
    · rename_i hz
      rw [if_neg (fun e => hx'.1 e.symm)]
      have : (z :: zs).countP (· < x) = 0 := by
        rw [List.countP_eq_zero]
        intro y hy
        rcases List.mem_cons.1 hy with e | e
        · simp; omega
        · have := h1 y e; simp; omega
      rw [this]
      simp
theorem ins_mem_self (x : Int) (l : List Int) (h : l.Pairwise (· < ·)) (hx : x ∈ l) : ins x l = l := by
  induction l with
  | nil => simp at hx
  | cons z zs ih =>
    obtain ⟨h1, h2⟩ := List.pairwise_cons.1 h
    unfold ins
    rcases List.mem_cons.1 hx with e | e
    · subst e; simp
    · have := h1 x e
      rw [if_pos this, ih h2 e]

mutual
def Ty.plain : Ty → Bool
  | ⟨k, nm, ix, args⟩ => k == 5 || Ty.closed ⟨k, nm, ix, args⟩ 0 || (k == 2 && Ty.plains args)
def Ty.plains : List Ty → Bool
  | [] => true
  | t :: ts => Ty.plain t && Ty.plains ts
 end
theorem Ty.plain_eq (t : Ty) : t.plain = (t.kind == 5 || t.closed 0 || (t.kind == 2 && Ty.plains t.args)) := by cases t; rw [Ty.plain]
theorem Ty.plains_iff (ts : List Ty) : Ty.plains ts = true ↔ ∀ (j : Nat) (hj : j < ts.length), ts[j].plain = true := by
  induction ts with
  | nil => simp [Ty.plains]
  | cons t ts ih =>
    rw [Ty.plains, Bool.and_eq_true, ih]
    constructor
    · rintro ⟨h1, h2⟩ j hj
      rcases j with _ | j
      · exact h1
      · exact h2 j (by simpa using hj)
    · intro h
      exact ⟨h 0 (by simp), fun j hj => h (j + 1) (by simpa using hj)⟩

def isLet (c : Int) : Bool := decide (97 ≤ c ∧ c ≤ 122 ∨ 65 ≤ c ∧ c ≤ 90)
def isDig (c : Int) : Bool := decide (48 ≤ c ∧ c ≤ 57)
def isWB (c : Int) : Bool := isLet c || isDig c || c == 95 || c == 45
def byteI (c : UInt8) : Int := (c.toNat : Int)
def okB (c : Int) : Bool := isWB c && c != 45
def everyTo (s : ByteArray) (j : Nat) : Bool := (s.data.toList.take j).all fun c => okB (byteI c)
def everyB (s : ByteArray) : Bool := everyTo s s.size
theorem everyTo_zero (s : ByteArray) : everyTo s 0 = true := by simp [everyTo]
theorem everyTo_succ (s : ByteArray) (j : Nat) (h : j < s.size) : everyTo s (j + 1) = (everyTo s j && okB (byteI s[j])) := by
  unfold everyTo
  rw [List.take_succ_eq_append_getElem (by simpa using h), List.all_append]
  simp
  rfl
theorem everyTo_false (s : ByteArray) (j : Nat) (h : j < s.size) (hf : okB (byteI s[j]) = false) : everyB s = false := by
  unfold everyB everyTo
  rw [List.all_eq_false]
  refine ⟨s[j], ?_, by simp [hf]⟩
  rw [List.take_of_length_le (by simp)]
  exact List.getElem_mem (l := s.data.toList) (by simpa using h)
def isIdent (s : ByteArray) : Bool := decide (1 ≤ s.size ∧ s.size ≤ 24) && isLet (byteI (s.data.getD 0 0)) && everyB s
def kwNames : List (List UInt8) := [[65, 110, 121], [78, 101, 118, 101, 114], [116, 117, 112, 108, 101], [117, 110, 105, 111, 110], [101, 120, 105, 115, 116, 115]]
def isKw (s : ByteArray) : Bool := kwNames.any fun k => s.toList == k
theorem toList_len (s : ByteArray) : s.toList.length = s.size := by
  rw [ByteArray.toList_eq]; simp
theorem toList_nil (s : ByteArray) : s.toList = [] ↔ s.size = 0 := by
  rw [← toList_len]; exact List.length_eq_zero_iff.symm
/-- The root of a term is well formed: what its kind asks. -/
def okKind (k : Int) (nm : ByteArray) (ix : Int) (args : List Ty) : Bool :=
  if k = 0 ∨ k = 1 then args.length == 0
  else if k = 2 then isIdent nm && !isKw nm && decide (args.length ≤ 6) && Ty.plains args
  else if k = 3 then decide (args.length ≤ 6)
  else if k = 4 then decide (2 ≤ args.length)
  else if k = 5 then args.length == 0 && decide (0 ≤ ix) && decide (ix ≤ 200)
  else if k = 6 then match args with
    | [a, _] => a.closed 0
    | _ => false
  else false
def okNode (k : Int) (nm : ByteArray) (ix : Int) (args : List Ty) : Bool := if (k != 2 && nm.size != 0) || (k != 5 && ix != 0) then false else okKind k nm ix args
mutual
def Ty.wf : Ty → Bool
  | ⟨k, nm, ix, args⟩ => okNode k nm ix args && Ty.wfs args
def Ty.wfs : List Ty → Bool
  | [] => true
  | t :: ts => Ty.wf t && Ty.wfs ts
 end
theorem Ty.wf_eq (t : Ty) : t.wf = (okNode t.kind t.name t.index t.args && Ty.wfs t.args) := by cases t; rw [Ty.wf]
theorem Ty.wfs_iff (ts : List Ty) : Ty.wfs ts = true ↔ ∀ (j : Nat) (hj : j < ts.length), ts[j].wf = true := by
  induction ts with
  | nil => simp [Ty.wfs]
  | cons t ts ih =>
    rw [Ty.wfs, Bool.and_eq_true, ih]
    constructor
    · rintro ⟨h1, h2⟩ j hj
      rcases j with _ | j
      · exact h1
      · exact h2 j (by simpa using hj)
    · intro h
      exact ⟨h 0 (by simp), fun j hj => h (j + 1) (by simpa using hj)⟩
def Ty.validate (t : Ty) : Int := if 200 < t.size ∨ 12 < t.depth then 4 else if t.wf then 0 else 2
end Go.Proofs.YtdbflfakocaapaaDoor
