/- The abstract machine on trees, part Q. No statement of the seat is proved here. -/
import Derived.Laws.Strings
import Derived.IntWalk
import Derived.Test.YtmciehdmmnkdhaaGreatDoorTmP
set_option linter.unusedVariables false
set_option linter.unusedSimpArgs false
set_option linter.constructorNameAsVariable false
set_option linter.unusedSectionVars false
set_option linter.deprecated false
set_option linter.unnecessarySimpa false
/- Terms and their measures, in plain Lean. No statement of the seat is proved here. -/
set_option linter.unusedVariables false
set_option linter.unusedSimpArgs false
namespace Tm
open Go
structure Ty where
  kind : Int
  name : ByteArray
  index : Int
  args : List Ty

mutual
def Ty.size : Ty → Nat
  | ⟨_, _, _, args⟩ => 1 + Ty.sizes args
def Ty.sizes : List Ty → Nat
  | [] => 0
  | t :: ts => Ty.size t + Ty.sizes ts
 end
theorem Ty.size_eq (t : Ty) : t.size = 1 + Ty.sizes t.args := by cases t; rw [Ty.size]
theorem Ty.size_get {ts : List Ty} (j : Nat) (hj : j < ts.length) : Ty.size ts[j] ≤ Ty.sizes ts := by
  induction ts generalizing j with
  | nil => simp at hj
  | cons t ts ih =>
    unfold Ty.sizes
    rcases j with _ | j
    · simp
    · have := ih j (by simpa using hj)
      simp
      omega
theorem Ty.sizes_take {ts : List Ty} (j : Nat) (hj : j < ts.length) : Ty.sizes (ts.take (j + 1)) = Ty.sizes (ts.take j) + Ty.size ts[j] := by
  induction ts generalizing j with
  | nil => simp at hj
  | cons t ts ih =>
    rcases j with _ | j
    · simp [Ty.sizes]
    · have := ih j (by simpa using hj)
      simp [Ty.sizes] at this ⊢
      omega
theorem Ty.size_pos (t : Ty) : 1 ≤ t.size := by cases t; unfold Ty.size; omega
theorem Ty.len_le (ts : List Ty) : ts.length ≤ Ty.sizes ts := by
  induction ts with
  | nil => simp
  | cons t ts ih => have := Ty.size_pos t; unfold Ty.sizes; simp; omega
theorem Ty.sizes_take_le (ts : List Ty) (j : Nat) : Ty.sizes (ts.take j) ≤ Ty.sizes ts := by
  induction ts generalizing j with
  | nil => simp
  | cons t ts ih =>
    rcases j with _ | j
    · simp [Ty.sizes]
    · have := ih j
      simp [Ty.sizes]
      omega

mutual
def Ty.depth : Ty → Nat
  | ⟨_, _, _, args⟩ => Ty.depths args + 1
def Ty.depths : List Ty → Nat
  | [] => 0
  | t :: ts => max (Ty.depth t) (Ty.depths ts)
 end
theorem Ty.depth_eq (t : Ty) : t.depth = Ty.depths t.args + 1 := by cases t; rw [Ty.depth]
theorem Ty.depths_take {ts : List Ty} (j : Nat) (hj : j < ts.length) : Ty.depths (ts.take (j + 1)) = max (Ty.depths (ts.take j)) (Ty.depth ts[j]) := by
  induction ts generalizing j with
  | nil => simp at hj
  | cons t ts ih =>
    rcases j with _ | j
    · simp [Ty.depths]
    · have := ih j (by simpa using hj)
      simp [Ty.depths] at this ⊢
      omega
mutual
theorem Ty.depth_le : ∀ t : Ty, t.depth ≤ t.size
  | ⟨_, _, _, args⟩ => by unfold Ty.depth Ty.size; have := Ty.depths_le args; omega
theorem Ty.depths_le : ∀ ts : List Ty, Ty.depths ts ≤ Ty.sizes ts
  | [] => by simp [Ty.depths]
  | t :: ts => by unfold Ty.depths Ty.sizes; have := Ty.depth_le t; have := Ty.depths_le ts; omega
 end

/-- The numbers of a term are numbers of Go's int. -/
def inI (n : Int) : Prop := -9223372036854775808 ≤ n ∧ n ≤ 9223372036854775807
mutual
def Ty.ok : Ty → Prop
  | ⟨k, _, ix, args⟩ => inI k ∧ inI ix ∧ Ty.oks args
def Ty.oks : List Ty → Prop
  | [] => True
  | t :: ts => Ty.ok t ∧ Ty.oks ts
 end
theorem Ty.ok_eq (t : Ty) : t.ok = (inI t.kind ∧ inI t.index ∧ Ty.oks t.args) := by cases t; rw [Ty.ok]
theorem Ty.ok_get {ts : List Ty} (h : Ty.oks ts) (j : Nat) (hj : j < ts.length) : Ty.ok ts[j] := by
  induction ts generalizing j with
  | nil => simp at hj
  | cons t ts ih =>
    unfold Ty.oks at h
    rcases j with _ | j
    · exact h.1
    · exact ih h.2 j (by simpa using hj)
theorem Ty.oks_of {ts : List Ty} (h : ∀ t ∈ ts, Ty.ok t) : Ty.oks ts := by
  induction ts with
  | nil => unfold Ty.oks; trivial
  | cons t ts ih => unfold Ty.oks; exact ⟨h t (by simp), ih fun x hx => h x (by simp [hx])⟩

def bindI (k : Int) (i : Nat) : Int := if k = 6 ∧ i = 1 then 1 else 0
theorem bindI_le (k : Int) (i : Nat) : 0 ≤ bindI k i ∧ bindI k i ≤ 1 := by unfold bindI; split <;> omega

mutual
def Ty.closed : Ty → Int → Bool
  | ⟨k, _, ix, args⟩, d => !(k == 5 && decide (d ≤ ix)) && Ty.closeds k args 0 d
def Ty.closeds (k : Int) : List Ty → Nat → Int → Bool
  | [], _, _ => true
  | t :: ts, i, d => Ty.closed t (d + bindI k i) && Ty.closeds k ts (i + 1) d
 end
theorem Ty.closed_eq (t : Ty) (d : Int) : t.closed d = (!(t.kind == 5 && decide (d ≤ t.index)) && Ty.closeds t.kind t.args 0 d) := by cases t; rw [Ty.closed]
theorem Ty.closeds_iff (k : Int) (ts : List Ty) (i : Nat) (d : Int) : Ty.closeds k ts i d = true ↔ ∀ (j : Nat) (hj : j < ts.length), ts[j].closed (d + bindI k (i + j)) = true := by
  induction ts generalizing i with
  | nil => simp [Ty.closeds]
  | cons t ts ih =>
    rw [Ty.closeds, Bool.and_eq_true, ih]
    constructor
    · rintro ⟨h1, h2⟩ j hj
      rcases j with _ | j
      · simpa using h1
      · have := h2 j (by simpa using hj)
        simpa [Nat.add_assoc, Nat.add_comm 1 j] using this
    · intro h
      refine ⟨h 0 (by simp), fun j hj => ?_⟩
      have := h (j + 1) (by simpa using hj)
      simpa [Nat.add_assoc, Nat.add_comm 1 j] using this

mutual
def Ty.fvs : Ty → Int → List Int
  | ⟨k, _, ix, args⟩, d => (if k = 5 ∧ d ≤ ix then [ix - d] else []) ++ Ty.fvss k args 0 d
def Ty.fvss (k : Int) : List Ty → Nat → Int → List Int
  | [], _, _ => []
  | t :: ts, i, d => Ty.fvs t (d + bindI k i) ++ Ty.fvss k ts (i + 1) d
 end
theorem Ty.fvs_eq (t : Ty) (d : Int) : t.fvs d = (if t.kind = 5 ∧ d ≤ t.index then [t.index - d] else []) ++ Ty.fvss t.kind t.args 0 d := by cases t; rw [Ty.fvs]
theorem Ty.fvss_take (k : Int) (ts : List Ty) (i : Nat) (d : Int) (j : Nat) (hj : j < ts.length) : Ty.fvss k (ts.take (j + 1)) i d = Ty.fvss k (ts.take j) i d ++ Ty.fvs ts[j] (d + bindI k (i + j)) := by
  induction ts generalizing i j with
  | nil => simp at hj
  | cons t ts ih =>
    rcases j with _ | j
    · simp [Ty.fvss]
    · have := ih (i + 1) j (by simpa using hj)
      simp [Ty.fvss, this, Nat.add_assoc, Nat.add_comm 1 j]
mutual
theorem Ty.closed_fvs : ∀ (t : Ty) (d : Int), t.closed d = true ↔ t.fvs d = []
  | ⟨k, _, ix, args⟩, d => by
    rw [Ty.closed, Ty.fvs, Bool.and_eq_true, List.append_eq_nil_iff, Ty.closeds_fvss k args 0 d]
    by_cases h : k = 5 ∧ d ≤ ix
    · simp [h]
    · simp [h]
      omega
theorem Ty.closeds_fvss (k : Int) : ∀ (ts : List Ty) (i : Nat) (d : Int), Ty.closeds k ts i d = true ↔ Ty.fvss k ts i d = []
  | [], _, _ => by simp [Ty.closeds, Ty.fvss]
  | t :: ts, i, d => by rw [Ty.closeds, Ty.fvss, Bool.and_eq_true, List.append_eq_nil_iff, Ty.closed_fvs t, Ty.closeds_fvss k ts]
 end

/-- Insertion into a sorted set. -/
def ins (x : Int) : List Int → List Int
  | [] => [x]
  | y :: ys => if y < x then y :: ins x ys else if y = x then y :: ys else x :: y :: ys
def insAll (l xs : List Int) : List Int := xs.foldl (fun l x => ins x l) l
theorem insAll_append (l xs ys : List Int) : insAll l (xs ++ ys) = insAll (insAll l xs) ys := by simp [insAll]
theorem ins_len (x : Int) (l : List Int) : l.length ≤ (ins x l).length ∧ (ins x l).length ≤ l.length + 1 ∧ 1 ≤ (ins x l).length := by
  induction l with
  | nil => simp [ins]
  | cons y ys ih =>
    unfold ins
    split
    · simp; omega
    · split <;> simp
theorem insAll_len (l xs : List Int) : l.length ≤ (insAll l xs).length ∧ (insAll l xs).length ≤ l.length + xs.length := by
  induction xs generalizing l with
  | nil => simp [insAll]
  | cons x xs ih =>
    have h1 := ih (ins x l)
    have h2 := ins_len x l
    simp only [insAll, List.foldl_cons, List.length_cons] at h1 ⊢
    omega
theorem insAll_nil (xs : List Int) : insAll [] xs = [] ↔ xs = [] := by
  rcases xs with _ | ⟨x, xs⟩
  · simp [insAll]
  · have h := insAll_len (ins x []) xs
    have h2 := ins_len x []
    constructor
    · intro e
      have : insAll [] (x :: xs) = insAll (ins x []) xs := rfl
      rw [this] at e
      rw [e] at h
      simp at h
      rw [h] at h2
      simp at h2
    · intro e; cases e
theorem ins_mem (x y : Int) (l : List Int) : y ∈ ins x l ↔ y = x ∨ y ∈ l := by
  induction l with
  | nil => simp [ins]
  | cons z zs ih =>
    unfold ins
    split
    · simp [ih]; constructor <;> (rintro (h | h | h) <;> simp [h])
    · split
      · rename_i h; subst h; simp
      · simp
theorem ins_sorted (x : Int) (l : List Int) (h : l.Pairwise (· < ·)) : (ins x l).Pairwise (· < ·) := by
  induction l with
  | nil => simp [ins]
  | cons z zs ih =>
    obtain ⟨h1, h2⟩ := List.pairwise_cons.1 h
    unfold ins
    split
    · refine List.pairwise_cons.2 ⟨fun y hy => ?_, ih h2⟩
      rcases (ins_mem x y zs).1 hy with e | e
      · omega
      · exact h1 y e
    · split
      · exact h
      · refine List.pairwise_cons.2 ⟨fun y hy => ?_, h⟩
        rcases List.mem_cons.1 hy with e | e
        · omega
        · have := h1 y e; omega
theorem insAll_sorted (l xs : List Int) (h : l.Pairwise (· < ·)) : (insAll l xs).Pairwise (· < ·) := by
  induction xs generalizing l with
  | nil => exact h
  | cons x xs ih => exact ih _ (ins_sorted x l h)
theorem insAll_mem (y : Int) (l xs : List Int) : y ∈ insAll l xs ↔ y ∈ l ∨ y ∈ xs := by
  induction xs generalizing l with
  | nil => simp [insAll]
  | cons x xs ih =>
    have : insAll l (x :: xs) = insAll (ins x l) xs := rfl
    rw [this, ih, ins_mem, List.mem_cons]
    constructor
    · rintro ((h | h) | h)
      · exact .inr (.inl h)
      · exact .inl h
      · exact .inr (.inr h)
    · rintro (h | h | h)
      · exact .inl (.inr h)
      · exact .inl (.inl h)
      · exact .inr h
/-- Where x goes: behind the smaller ones. -/
theorem ins_split (x : Int) (l : List Int) (h : l.Pairwise (· < ·)) (hx : x ∉ l) : ins x l = l.take (l.countP (· < x)) ++ x :: l.drop (l.countP (· < x)) := by
  induction l with
  | nil => simp [ins]
  | cons z zs ih =>
    obtain ⟨h1, h2⟩ := List.pairwise_cons.1 h
    have hx' : ¬ x = z ∧ x ∉ zs := ⟨fun e => hx (by simp [e]), fun e => hx (by simp [e])⟩
    unfold ins
    split
    · rename_i hz
      rw [List.countP_cons_of_pos (by simpa using hz), ih h2 hx'.2]
      simp
    · rename_i hz
      rw [if_neg (fun e => hx'.1 e.symm)]
      have : (z :: zs).countP (· < x) = 0 := by
        rw [List.countP_eq_zero]
        intro y hy
        rcases List.mem_cons.1 hy with e | e
        · simp; omega
        · have := h1 y e; simp; omega
      rw [this]
      simp
theorem ins_mem_self (x : Int) (l : List Int) (h : l.Pairwise (· < ·)) (hx : x ∈ l) : ins x l = l := by
  induction l with
  | nil => simp at hx
  | cons z zs ih =>
    obtain ⟨h1, h2⟩ := List.pairwise_cons.1 h
    unfold ins
    rcases List.mem_cons.1 hx with e | e
    · subst e; simp
    · have := h1 x e
      rw [if_pos this, ih h2 e]

mutual
def Ty.plain : Ty → Bool
  | ⟨k, nm, ix, args⟩ => k == 5 || Ty.closed ⟨k, nm, ix, args⟩ 0 || (k == 2 && Ty.plains args)
def Ty.plains : List Ty → Bool
  | [] => true
  | t :: ts => Ty.plain t && Ty.plains ts
 end
theorem Ty.plain_eq (t : Ty) : t.plain = (t.kind == 5 || t.closed 0 || (t.kind == 2 && Ty.plains t.args)) := by cases t; rw [Ty.plain]
theorem Ty.plains_iff (ts : List Ty) : Ty.plains ts = true ↔ ∀ (j : Nat) (hj : j < ts.length), ts[j].plain = true := by
  induction ts with
  | nil => simp [Ty.plains]
  | cons t ts ih =>
    rw [Ty.plains, Bool.and_eq_true, ih]
    constructor
    · rintro ⟨h1, h2⟩ j hj
      rcases j with _ | j
      · exact h1
      · exact h2 j (by simpa using hj)
    · intro h
      exact ⟨h 0 (by simp), fun j hj => h (j + 1) (by simpa using hj)⟩

def isLet (c : Int) : Bool := decide (97 ≤ c ∧ c ≤ 122 ∨ 65 ≤ c ∧ c ≤ 90)
def isDig (c : Int) : Bool := decide (48 ≤ c ∧ c ≤ 57)
def isWB (c : Int) : Bool := isLet c || isDig c || c == 95 || c == 45
def byteI (c : UInt8) : Int := (c.toNat : Int)
def okB (c : Int) : Bool := isWB c && c != 45
def everyTo (s : ByteArray) (j : Nat) : Bool := (s.data.toList.take j).all fun c => okB (byteI c)
def everyB (s : ByteArray) : Bool := everyTo s s.size
theorem everyTo_zero (s : ByteArray) : everyTo s 0 = true := by simp [everyTo]
theorem everyTo_succ (s : ByteArray) (j : Nat) (h : j < s.size) : everyTo s (j + 1) = (everyTo s j && okB (byteI s[j])) := by
  unfold everyTo
  rw [List.take_succ_eq_append_getElem (by simpa using h), List.all_append]
  simp
  rfl
theorem everyTo_false (s : ByteArray) (j : Nat) (h : j < s.size) (hf : okB (byteI s[j]) = false) : everyB s = false := by
  unfold everyB everyTo
  rw [List.all_eq_false]
  refine ⟨s[j], ?_, by simp [hf]⟩
  rw [List.take_of_length_le (by simp)]
  exact List.getElem_mem (l := s.data.toList) (by simpa using h)
def isIdent (s : ByteArray) : Bool := decide (1 ≤ s.size ∧ s.size ≤ 24) && isLet (byteI (s.data.getD 0 0)) && everyB s
def kwNames : List (List UInt8) := [[65, 110, 121], [78, 101, 118, 101, 114], [116, 117, 112, 108, 101], [117, 110, 105, 111, 110], [101, 120, 105, 115, 116, 115]]
def isKw (s : ByteArray) : Bool := kwNames.any fun k => s.toList == k
theorem toList_len (s : ByteArray) : s.toList.length = s.size := by
  rw [ByteArray.toList_eq]; simp
theorem toList_nil (s : ByteArray) : s.toList = [] ↔ s.size = 0 := by
  rw [← toList_len]; exact List.length_eq_zero_iff.symm
/-- The root of a term is well formed: what its kind asks. -/
def okKind (k : Int) (nm : ByteArray) (ix : Int) (args : List Ty) : Bool :=
  if k = 0 ∨ k = 1 then args.length == 0
  else if k = 2 then isIdent nm && !isKw nm && decide (args.length ≤ 6) && Ty.plains args
  else if k = 3 then decide (args.length ≤ 6)
  else if k = 4 then decide (2 ≤ args.length)
  else if k = 5 then args.length == 0 && decide (0 ≤ ix) && decide (ix ≤ 200)
  else if k = 6 then match args with
    | [a, _] => a.closed 0
    | _ => false
  else false
def okNode (k : Int) (nm : ByteArray) (ix : Int) (args : List Ty) : Bool := if (k != 2 && nm.size != 0) || (k != 5 && ix != 0) then false else okKind k nm ix args
mutual
def Ty.wf : Ty → Bool
  | ⟨k, nm, ix, args⟩ => okNode k nm ix args && Ty.wfs args
def Ty.wfs : List Ty → Bool
  | [] => true
  | t :: ts => Ty.wf t && Ty.wfs ts
 end
theorem Ty.wf_eq (t : Ty) : t.wf = (okNode t.kind t.name t.index t.args && Ty.wfs t.args) := by cases t; rw [Ty.wf]
theorem Ty.wfs_iff (ts : List Ty) : Ty.wfs ts = true ↔ ∀ (j : Nat) (hj : j < ts.length), ts[j].wf = true := by
  induction ts with
  | nil => simp [Ty.wfs]
  | cons t ts ih =>
    rw [Ty.wfs, Bool.and_eq_true, ih]
    constructor
    · rintro ⟨h1, h2⟩ j hj
      rcases j with _ | j
      · exact h1
      · exact h2 j (by simpa using hj)
    · intro h
      exact ⟨h 0 (by simp), fun j hj => h (j + 1) (by simpa using hj)⟩
def Ty.validate (t : Ty) : Int := if 200 < t.size ∨ 12 < t.depth then 4 else if t.wf then 0 else 2
mutual
theorem Ty.closed_mono : ∀ (t : Ty) (d d' : Int), d ≤ d' → t.closed d = true → t.closed d' = true
  | ⟨k, nm, ix, args⟩, d, d', h, hc => by
    unfold Ty.closed at hc ⊢
    simp only [Bool.and_eq_true, Bool.not_eq_true', Bool.and_eq_false_iff, decide_eq_false_iff_not] at hc ⊢
    refine ⟨?_, Ty.closeds_mono k args 0 d d' h hc.2⟩
    rcases hc.1 with h1 | h1
    · exact .inl h1
    · exact .inr (by omega)
theorem Ty.closeds_mono (k : Int) : ∀ (ts : List Ty) (i : Nat) (d d' : Int), d ≤ d' → Ty.closeds k ts i d = true → Ty.closeds k ts i d' = true
  | [], _, _, _, _, _ => by unfold Ty.closeds; rfl
  | t :: ts, i, d, d', h, hc => by
    unfold Ty.closeds at hc ⊢
    simp only [Bool.and_eq_true] at hc ⊢
    exact ⟨Ty.closed_mono t _ _ (by omega) hc.1, Ty.closeds_mono k ts (i + 1) d d' h hc.2⟩
 end
mutual
/-- A variable has no arguments. -/
def Ty.vl : Ty → Prop
  | ⟨k, _, _, args⟩ => (k = 5 → args = []) ∧ Ty.vls args
def Ty.vls : List Ty → Prop
  | [] => True
  | t :: ts => Ty.vl t ∧ Ty.vls ts
 end
theorem Ty.vl_eq (t : Ty) : t.vl = ((t.kind = 5 → t.args = []) ∧ Ty.vls t.args) := by cases t; rw [Ty.vl]
theorem Ty.vls_of {ts : List Ty} (h : ∀ t ∈ ts, Ty.vl t) : Ty.vls ts := by
  induction ts with
  | nil => unfold Ty.vls; trivial
  | cons t ts ih => unfold Ty.vls; exact ⟨h t (by simp), ih fun x hx => h x (by simp [hx])⟩
end Tm
/- The order of terms, their names, replacement, in plain Lean. No statement of the seat is proved here. -/
set_option linter.unusedVariables false
set_option linter.unusedSimpArgs false
namespace Tm
open Go
theorem bl_irrefl : ∀ a : List UInt8, Op.bytesLess a a = false
  | [] => rfl
  | x :: a => by simp [Op.bytesLess, bl_irrefl a]
theorem bl_trans : ∀ a b c : List UInt8, Op.bytesLess a b = true → Op.bytesLess b c = true → Op.bytesLess a c = true
  | _, [], _, h, _ => by simp [Op.bytesLess] at h
  | _, _ :: _, [], _, h => by simp [Op.bytesLess] at h
  | [], _ :: _, _ :: _, _, _ => rfl
  | x :: a, y :: b, z :: c, h1, h2 => by
    simp only [Op.bytesLess, Bool.or_eq_true, Bool.and_eq_true, decide_eq_true_eq, beq_iff_eq] at *
    rcases h1 with h1 | ⟨rfl, h1⟩
    · rcases h2 with h2 | ⟨rfl, h2⟩
      · exact .inl (UInt8.lt_trans h1 h2)
      · exact .inl h1
    · rcases h2 with h2 | ⟨rfl, h2⟩
      · exact .inl h2
      · exact .inr ⟨rfl, bl_trans a b c h1 h2⟩
theorem bl_total : ∀ a b : List UInt8, Op.bytesLess a b = true ∨ a = b ∨ Op.bytesLess b a = true
  | [], [] => .inr (.inl rfl)
  | [], _ :: _ => .inl rfl
  | _ :: _, [] => .inr (.inr rfl)
  | x :: a, y :: b => by
    simp only [Op.bytesLess, Bool.or_eq_true, Bool.and_eq_true, decide_eq_true_eq, beq_iff_eq]
    rcases UInt8.lt_or_lt_of_ne (a := x) (b := y) |> fun h => (Classical.em (x = y)).imp id h with rfl | h | h
    · rcases bl_total a b with h | rfl | h
      · exact .inl (.inr ⟨rfl, h⟩)
      · exact .inr (.inl rfl)
      · exact .inr (.inr (.inr ⟨rfl, h⟩))
    · exact .inl (.inl h)
    · exact .inr (.inr (.inl h))

/-- Insertion into a sorted set of strings. -/
def insS (x : ByteArray) : List ByteArray → List ByteArray
  | [] => [x]
  | y :: ys => if Op.bytesLess y.toList x.toList = true then y :: insS x ys else if y.toList = x.toList then y :: ys else x :: y :: ys
mutual
def Ty.nms : Ty → List ByteArray
  | ⟨k, nm, _, args⟩ => (if k = 2 then [nm] else []) ++ Ty.nmss args
def Ty.nmss : List Ty → List ByteArray
  | [] => []
  | t :: ts => Ty.nms t ++ Ty.nmss ts
 end
theorem Ty.nms_eq (t : Ty) : t.nms = (if t.kind = 2 then [t.name] else []) ++ Ty.nmss t.args := by cases t; rw [Ty.nms]
theorem Ty.nmss_take (ts : List Ty) (j : Nat) (hj : j < ts.length) : Ty.nmss (ts.take (j + 1)) = Ty.nmss (ts.take j) ++ Ty.nms ts[j] := by
  induction ts generalizing j with
  | nil => simp at hj
  | cons t ts ih =>
    rcases j with _ | j
    · simp [Ty.nmss]
    · have := ih j (by simpa using hj)
      simp [Ty.nmss, this]
mutual
theorem Ty.nms_len : ∀ (t : Ty), t.nms.length ≤ t.size
  | ⟨k, _, ix, args⟩ => by
    have := Ty.nmss_len args
    rw [Ty.nms, Ty.size, List.length_append]
    split <;> simp <;> omega
theorem Ty.nmss_len : ∀ (ts : List Ty), (Ty.nmss ts).length ≤ Ty.sizes ts
  | [] => by simp [Ty.nmss]
  | t :: ts => by
    rw [Ty.nmss, Ty.sizes, List.length_append]
    have := Ty.nms_len t
    have := Ty.nmss_len ts
    omega
 end
def nmHead (k : Int) (nm : ByteArray) : List ByteArray := if k = 2 then [nm] else []
def cI (a b : Int) : Int := if a < b then -1 else if b < a then 1 else 0
def cS (a b : ByteArray) : Int := if Op.bytesLess a.toList b.toList = true then -1 else if Op.bytesLess b.toList a.toList = true then 1 else 0
def or0 (a b : Int) : Int := if a = 0 then b else a

/-- What three comparisons (a with b, b with c, a with c) tell of a total order. -/
def Tri (x y z : Int) : Prop := (x < 0 → y < 0 → z < 0) ∧ (0 < x → 0 < y → 0 < z) ∧ (x = 0 → z = y) ∧ (y = 0 → z = x)

theorem Tri.or0 {x1 y1 z1 x2 y2 z2 : Int} (h : Tri x1 y1 z1) (h2 : x1 = 0 → y1 = 0 → Tri x2 y2 z2) : Tri (or0 x1 x2) (or0 y1 y2) (or0 z1 z2) := by
  obtain ⟨a, b, c, d⟩ := h
  by_cases hx : x1 = 0
  · by_cases hy : y1 = 0
    · have hz : z1 = 0 := by rw [c hx, hy]
      have := h2 hx hy
      simpa [Tm.or0, hx, hy, hz] using this
    · have hz : z1 = y1 := c hx
      simp only [Tm.or0, hx, hy, hz, if_true, if_false]
      refine ⟨?_, ?_, fun _ => rfl, fun e => absurd e hy⟩ <;> intro _ h <;> exact h
  · by_cases hy : y1 = 0
    · have hz : z1 = x1 := d hy
      simp only [Tm.or0, hx, hy, hz, if_true, if_false]
      refine ⟨?_, ?_, fun e => absurd e hx, fun _ => rfl⟩ <;> intro h _ <;> exact h
    · simp only [Tm.or0, hx, hy, if_false]
      by_cases hz : z1 = 0
      · simp only [hz, if_true]
        refine ⟨fun h1 h2 => ?_, fun h1 h2 => ?_, fun e => absurd e hx, fun e => absurd e hy⟩
        · have := a h1 h2; omega
        · have := b h1 h2; omega
      · simp only [hz, if_false]
        exact ⟨a, b, c, d⟩
theorem cI_tri (a b c : Int) : Tri (cI a b) (cI b c) (cI a c) := by
  unfold Tri cI
  refine ⟨?_, ?_, ?_, ?_⟩ <;> (repeat' split) <;> omega
theorem cI_neg (a b : Int) : cI b a = -cI a b := by unfold cI; (repeat' split) <;> omega
theorem cI_zero (a b : Int) : cI a b = 0 ↔ a = b := by unfold cI; (repeat' split) <;> omega
theorem cI_in (a b : Int) : -1 ≤ cI a b ∧ cI a b ≤ 1 := by unfold cI; (repeat' split) <;> omega

theorem bl_asymm {a b : List UInt8} (h : Op.bytesLess a b = true) : Op.bytesLess b a = false := by
  rcases hb : Op.bytesLess b a with _ | _
  · rfl
  · have := bl_trans _ _ _ h hb
    rw [bl_irrefl] at this
    cases this
theorem cS_cases (a b : ByteArray) : (cS a b = -1 ∧ Op.bytesLess a.toList b.toList = true) ∨ (cS a b = 0 ∧ a.toList = b.toList) ∨ (cS a b = 1 ∧ Op.bytesLess b.toList a.toList = true) := by
  unfold cS
  rcases bl_total a.toList b.toList with h | h | h
  · exact .inl ⟨by rw [if_pos h], h⟩
  · refine .inr (.inl ⟨?_, h⟩)
    rw [h, bl_irrefl]; simp
  · refine .inr (.inr ⟨?_, h⟩)
    rw [bl_asymm h, h]; simp
theorem cS_lt {a b : ByteArray} (h : Op.bytesLess a.toList b.toList = true) : cS a b = -1 := by unfold cS; rw [if_pos h]
theorem cS_gt {a b : ByteArray} (h : Op.bytesLess b.toList a.toList = true) : cS a b = 1 := by unfold cS; rw [bl_asymm h, h]; simp
theorem cS_eq {a b : ByteArray} (h : a.toList = b.toList) : cS a b = 0 := by unfold cS; rw [h, bl_irrefl]; simp
theorem cS_tri (a b c : ByteArray) : Tri (cS a b) (cS b c) (cS a c) := by
  rcases cS_cases a b with ⟨e1, h1⟩ | ⟨e1, h1⟩ | ⟨e1, h1⟩ <;> rcases cS_cases b c with ⟨e2, h2⟩ | ⟨e2, h2⟩ | ⟨e2, h2⟩
  · rw [e1, e2, cS_lt (bl_trans _ _ _ h1 h2)]; unfold Tri; omega
  · rw [e1, e2, cS_lt (by rw [← h2]; exact h1)]; unfold Tri; omega
  · rw [e1, e2]; unfold Tri; omega
  · rw [e1, e2, cS_lt (by rw [h1]; exact h2)]; unfold Tri; omega
  · rw [e1, e2, cS_eq (h1.trans h2)]; unfold Tri; omega
  · rw [e1, e2, cS_gt (by rw [h1]; exact h2)]; unfold Tri; omega
  · rw [e1, e2]; unfold Tri; omega
  · rw [e1, e2, cS_gt (by rw [← h2]; exact h1)]; unfold Tri; omega
  · rw [e1, e2, cS_gt (bl_trans _ _ _ h2 h1)]; unfold Tri; omega
theorem cS_neg (a b : ByteArray) : cS b a = -cS a b := by
  rcases cS_cases a b with ⟨e1, h1⟩ | ⟨e1, h1⟩ | ⟨e1, h1⟩
  · rw [e1, cS_gt h1]; rfl
  · rw [e1, cS_eq h1.symm]; rfl
  · rw [e1, cS_lt h1]
theorem cS_in (a b : ByteArray) : -1 ≤ cS a b ∧ cS a b ≤ 1 := by
  rcases cS_cases a b with ⟨e1, h1⟩ | ⟨e1, h1⟩ | ⟨e1, h1⟩ <;> omega
theorem or0_neg {a b c d : Int} (h1 : b = -a) (h2 : d = -c) : or0 b d = -or0 a c := by
  unfold or0; split <;> split <;> omega
theorem or0_in {a b : Int} (h1 : -1 ≤ a ∧ a ≤ 1) (h2 : -1 ≤ b ∧ b ≤ 1) : -1 ≤ or0 a b ∧ or0 a b ≤ 1 := by
  unfold or0; split <;> omega
theorem or0_zero (a b : Int) : or0 a b = 0 ↔ a = 0 ∧ b = 0 := by
  unfold or0; split
  · simp [*]
  · simp [*]
theorem or0_assoc (a b c : Int) : or0 (or0 a b) c = or0 a (or0 b c) := by
  unfold or0
  by_cases h : a = 0 <;> simp [h]

/-- The comparison of two roots. -/
def hd4 (k : Int) (n : ByteArray) (i : Int) (l : Nat) (k' : Int) (n' : ByteArray) (i' : Int) (l' : Nat) : Int := or0 (cI k k') (or0 (cS n n') (or0 (cI i i') (cI l l')))
mutual
def Ty.cmp : Ty → Ty → Int
  | ⟨k, n, i, xs⟩, b => or0 (hd4 k n i xs.length b.kind b.name b.index b.args.length) (Ty.cmps xs b.args)
def Ty.cmps : List Ty → List Ty → Int
  | [], _ => 0
  | _ :: _, [] => 0
  | a :: xs, b :: ys => or0 (Ty.cmp a b) (Ty.cmps xs ys)
 end
def Ty.hd (a b : Ty) : Int := hd4 a.kind a.name a.index a.args.length b.kind b.name b.index b.args.length
theorem Ty.cmp_eq (a b : Ty) : a.cmp b = or0 (a.hd b) (Ty.cmps a.args b.args) := by cases a; rw [Ty.cmp]; rfl
theorem Ty.hd_len {a b : Ty} (h : a.hd b = 0) : a.args.length = b.args.length := by
  unfold Ty.hd hd4 at h
  simp only [or0_zero, cI_zero] at h
  have := h.2.2.2
  omega
theorem Ty.hd_tri (a b c : Ty) : Tri (a.hd b) (b.hd c) (a.hd c) := by
  unfold Ty.hd hd4
  exact (cI_tri _ _ _).or0 fun _ _ => (cS_tri _ _ _).or0 fun _ _ => (cI_tri _ _ _).or0 fun _ _ => cI_tri _ _ _
theorem Ty.hd_neg (a b : Ty) : b.hd a = -a.hd b := by
  unfold Ty.hd hd4
  exact or0_neg (cI_neg _ _) (or0_neg (cS_neg _ _) (or0_neg (cI_neg _ _) (cI_neg _ _)))
theorem Ty.hd_in (a b : Ty) : -1 ≤ a.hd b ∧ a.hd b ≤ 1 := by
  unfold Ty.hd hd4
  exact or0_in (cI_in _ _) (or0_in (cS_in _ _) (or0_in (cI_in _ _) (cI_in _ _)))
mutual
theorem Ty.cmp_tri : ∀ a b c : Ty, Tri (a.cmp b) (b.cmp c) (a.cmp c)
  | ⟨k, n, i, xs⟩, b, c => by
    rw [Ty.cmp_eq, Ty.cmp_eq, Ty.cmp_eq]
    exact (Ty.hd_tri _ _ _).or0 fun h1 h2 => Ty.cmps_tri xs b.args c.args (Ty.hd_len h1) (Ty.hd_len h2)
theorem Ty.cmps_tri : ∀ a b c : List Ty, a.length = b.length → b.length = c.length → Tri (Ty.cmps a b) (Ty.cmps b c) (Ty.cmps a c)
  | [], [], [], _, _ => by unfold Ty.cmps Tri; omega
  | a :: xs, b :: ys, c :: zs, h1, h2 => by
    rw [Ty.cmps, Ty.cmps, Ty.cmps]
    exact (Ty.cmp_tri a b c).or0 fun _ _ => Ty.cmps_tri xs ys zs (by simpa using h1) (by simpa using h2)
  | [], _ :: _, _, h, _ => by simp at h
  | _ :: _, [], _, h, _ => by simp at h
  | [], [], _ :: _, _, h => by simp at h
  | _ :: _, _ :: _, [], _, h => by simp at h
 end
mutual
theorem Ty.cmp_neg : ∀ a b : Ty, b.cmp a = -a.cmp b
  | ⟨k, n, i, xs⟩, ⟨k', n', i', ys⟩ => by
    rw [Ty.cmp_eq, Ty.cmp_eq]
    exact or0_neg (Ty.hd_neg _ _) (Ty.cmps_neg xs ys)
theorem Ty.cmps_neg : ∀ a b : List Ty, Ty.cmps b a = -Ty.cmps a b
  | [], [] => by unfold Ty.cmps; rfl
  | a :: xs, b :: ys => by
    rw [Ty.cmps, Ty.cmps]
    exact or0_neg (Ty.cmp_neg a b) (Ty.cmps_neg xs ys)
  | [], _ :: _ => by unfold Ty.cmps; rfl
  | _ :: _, [] => by unfold Ty.cmps; rfl
 end
mutual
theorem Ty.cmp_in : ∀ a b : Ty, -1 ≤ a.cmp b ∧ a.cmp b ≤ 1
  | ⟨k, n, i, xs⟩, b => by
    rw [Ty.cmp_eq]
    exact or0_in (Ty.hd_in _ _) (Ty.cmps_in xs b.args)
theorem Ty.cmps_in : ∀ a b : List Ty, -1 ≤ Ty.cmps a b ∧ Ty.cmps a b ≤ 1
  | [], _ => by unfold Ty.cmps; omega
  | a :: xs, b :: ys => by
    rw [Ty.cmps]
    exact or0_in (Ty.cmp_in a b) (Ty.cmps_in xs ys)
  | _ :: _, [] => by unfold Ty.cmps; omega
 end
theorem Ty.cmp_self (a : Ty) : a.cmp a = 0 := by have := Ty.cmp_neg a a; omega
theorem Ty.cmps_take (xs ys : List Ty) (j : Nat) (h1 : j < xs.length) (h2 : j < ys.length) : Ty.cmps (xs.take (j + 1)) (ys.take (j + 1)) = or0 (Ty.cmps (xs.take j) (ys.take j)) (xs[j].cmp ys[j]) := by
  induction xs generalizing ys j with
  | nil => simp at h1
  | cons a xs ih =>
    rcases ys with _ | ⟨b, ys⟩
    · simp at h2
    rcases j with _ | j
    · simp [Ty.cmps, or0]
      exact fun h => h.symm
    · have := ih ys j (by simpa using h1) (by simpa using h2)
      simp only [List.take_succ_cons, Ty.cmps, List.getElem_cons_succ]
      rw [this, or0_assoc]
theorem Ty.cmps_stop (xs ys : List Ty) (j : Nat) (h : Ty.cmps (xs.take j) (ys.take j) ≠ 0) : Ty.cmps xs ys = Ty.cmps (xs.take j) (ys.take j) := by
  induction xs generalizing ys j with
  | nil => simp [Ty.cmps] at h
  | cons a xs ih =>
    rcases ys with _ | ⟨b, ys⟩
    · simp at h
      rcases j with _ | j <;> simp [Ty.cmps] at h
    rcases j with _ | j
    · simp [Ty.cmps] at h
    · simp only [List.take_succ_cons, Ty.cmps] at h ⊢
      by_cases hc : a.cmp b = 0
      · simp only [or0, hc, if_true] at h ⊢
        exact ih ys j h
      · simp [or0, hc]
/-- The loop's invariant: behind j rounds. -/
def Ty.cmpTo (a b : Ty) (j : Nat) : Int := or0 (a.hd b) (Ty.cmps (a.args.take j) (b.args.take j))
theorem Ty.cmpTo_zero (a b : Ty) : a.cmpTo b 0 = a.hd b := by unfold Ty.cmpTo or0; split <;> simp [Ty.cmps, *]
theorem Ty.cmpTo_succ (a b : Ty) (j : Nat) (h : a.cmpTo b j = 0) (h1 : j < a.args.length) (h2 : j < b.args.length) : a.cmpTo b (j + 1) = a.args[j].cmp b.args[j] := by
  unfold Ty.cmpTo at h ⊢
  obtain ⟨e1, e2⟩ := (or0_zero _ _).1 h
  rw [Ty.cmps_take _ _ _ h1 h2, e2, e1]
  simp [or0]
theorem Ty.cmpTo_stop (a b : Ty) (j : Nat) (h : a.cmpTo b j ≠ 0) : a.cmp b = a.cmpTo b j := by
  rw [Ty.cmp_eq]
  unfold Ty.cmpTo at h ⊢
  by_cases hh : a.hd b = 0
  · simp only [or0, hh, if_true] at h ⊢
    exact Ty.cmps_stop _ _ _ h
  · simp [or0, hh]
theorem Ty.cmpTo_len (a b : Ty) (j : Nat) (h : a.cmpTo b j = 0) : a.args.length = b.args.length := Ty.hd_len ((or0_zero _ _).1 h).1
theorem Ty.cmpTo_end (a b : Ty) (h : a.cmpTo b a.args.length = 0) : a.cmp b = 0 := by
  have hl := Ty.cmpTo_len a b _ h
  rw [Ty.cmp_eq]
  unfold Ty.cmpTo at h
  rw [List.take_length, hl, List.take_length] at h
  exact h
theorem Ty.cmpTo_in (a b : Ty) (j : Nat) : -1 ≤ a.cmpTo b j ∧ a.cmpTo b j ≤ 1 := or0_in (Ty.hd_in _ _) (Ty.cmps_in _ _)
/-- The law's last line. -/
theorem Ty.order_law (a b c : Ty) : ((0 < a.cmp b ∨ 0 < b.cmp c) ∨ a.cmp c ≤ 0) ∧ ((a.cmp b < 0 ∨ b.cmp c < 0) ∨ 0 ≤ a.cmp c) := by
  obtain ⟨h1, h2, h3, h4⟩ := Ty.cmp_tri a b c
  omega
mutual
/-- The copy of a term in which f decides about the variables. -/
def Ty.repl (f : Int → Int → Ty ⊕ Int) : Ty → Int → Ty
  | ⟨k, nm, ix, args⟩, d => match (if k = 5 then f ix d else .inr ix) with
    | .inl t => t
    | .inr i => ⟨k, nm, i, Ty.repls f k args 0 d⟩
def Ty.repls (f : Int → Int → Ty ⊕ Int) (k : Int) : List Ty → Nat → Int → List Ty
  | [], _, _ => []
  | t :: ts, i, d => Ty.repl f t (d + bindI k i) :: Ty.repls f k ts (i + 1) d
 end
theorem Ty.repl_var {f : Int → Int → Ty ⊕ Int} {t t' : Ty} {d : Int} (hk : t.kind = 5) (h : f t.index d = .inl t') : t.repl f d = t' := by
  obtain ⟨k, nm, ix, args⟩ := t
  rw [Ty.repl]
  obtain rfl : k = 5 := hk
  have h' : f ix d = .inl t' := h
  rw [if_pos rfl, h']
theorem Ty.repl_idx {f : Int → Int → Ty ⊕ Int} {t : Ty} {i d : Int} (hk : t.kind = 5) (h : f t.index d = .inr i) : t.repl f d = ⟨t.kind, t.name, i, Ty.repls f t.kind t.args 0 d⟩ := by
  obtain ⟨k, nm, ix, args⟩ := t
  rw [Ty.repl]
  obtain rfl : k = 5 := hk
  have h' : f ix d = .inr i := h
  rw [if_pos rfl, h']
theorem Ty.repl_other {f : Int → Int → Ty ⊕ Int} {t : Ty} {d : Int} (hk : ¬ t.kind = 5) : t.repl f d = ⟨t.kind, t.name, t.index, Ty.repls f t.kind t.args 0 d⟩ := by
  obtain ⟨k, nm, ix, args⟩ := t
  rw [Ty.repl]
  have h' : ¬ k = 5 := hk
  rw [if_neg h']
theorem Ty.repls_take {f : Int → Int → Ty ⊕ Int} (k : Int) (ts : List Ty) (i : Nat) (d : Int) (j : Nat) (hj : j < ts.length) : Ty.repls f k (ts.take (j + 1)) i d = Ty.repls f k (ts.take j) i d ++ [ts[j].repl f (d + bindI k (i + j))] := by
  induction ts generalizing i j with
  | nil => simp at hj
  | cons t ts ih =>
    rcases j with _ | j
    · simp [Ty.repls]
    · have := ih (i + 1) j (by simpa using hj)
      simp [Ty.repls, this, Nat.add_assoc, Nat.add_comm 1 j]
theorem Ty.repls_len {f : Int → Int → Ty ⊕ Int} (k : Int) (ts : List Ty) (i : Nat) (d : Int) : (Ty.repls f k ts i d).length = ts.length := by
  induction ts generalizing i with
  | nil => simp [Ty.repls]
  | cons t ts ih => simp [Ty.repls, ih]

theorem Ty.depth_get {ts : List Ty} (j : Nat) (hj : j < ts.length) : Ty.depth ts[j] ≤ Ty.depths ts := by
  induction ts generalizing j with
  | nil => simp at hj
  | cons t ts ih =>
    unfold Ty.depths
    rcases j with _ | j
    · simp; omega
    · have := ih j (by simpa using hj)
      simp
      omega
def fSub (b : Ty) (ix d : Int) : Ty ⊕ Int := if ix = d then .inl b else if d < ix then .inr (ix - 1) else .inr ix
def fInst (l : List Ty) (ix d : Int) : Ty ⊕ Int := if d ≤ ix then match l[(ix - d).toNat]? with
    | some t => .inl t
    | none => .inr ix
  else .inr ix
end Tm
/- Terms as the machine's data; loops; calls; rows that grow. No statement of the seat is proved here. -/
set_option linter.unusedVariables false
set_option linter.unusedSimpArgs false
namespace Tm
open Go
theorem wrap64 {x : Int} (h1 : -9223372036854775808 ≤ x) (h2 : x ≤ 9223372036854775807) : IntKind.i64.wrap x = x := by
  rw [IntKind.wrap_i64]; omega
theorem ieq (a b : Int) : (a == b) = decide (a = b) := by rw [Bool.eq_iff_iff]; simp
theorem natlt1 (n : Nat) : (n : Int) < 1 ↔ n = 0 := by omega
theorem nat0 (n : Nat) : (n : Int) = 0 ↔ n = 0 := by omega
theorem nat2 (n : Nat) : (n : Int) = 2 ↔ n = 2 := by omega
theorem natgt6 (n : Nat) : (6 : Int) < n ↔ 6 < n := by omega
theorem natlt2 (n : Nat) : (n : Int) < 2 ↔ n < 2 := by omega
theorem natgt200 (n : Nat) : (200 : Int) < n ↔ 200 < n := by omega
theorem natgt12 (n : Nat) : (12 : Int) < n ↔ 12 < n := by omega
theorem natgt24 (n : Nat) : (24 : Int) < n ↔ 24 < n := by omega
mutual
def enc : Ty → D
  | ⟨k, nm, ix, as⟩ => .ag [.i .i64 k, .s nm, .i .i64 ix, .sl (encs as)]
def encs : List Ty → List D
  | [] => []
  | t :: ts => enc t :: encs ts
end
@[simp] theorem encs_nil : encs [] = [] := rfl
@[simp] theorem encs_cons (t : Ty) (ts : List Ty) : encs (t :: ts) = enc t :: encs ts := rfl
theorem encs_map (l : List Ty) : encs l = l.map enc := by induction l with | nil => rfl | cons t ts ih => simp [ih]
@[simp] theorem encs_len (l : List Ty) : (encs l).length = l.length := by simp [encs_map]
@[simp] theorem encs_app (l m : List Ty) : encs l ++ encs m = encs (l ++ m) := by simp [encs_map]
theorem encs_get (l : List Ty) (i : Nat) (hi : i < l.length) : (encs l)[i]? = some (enc l[i]) := by simp [encs_map, hi]
@[simp] theorem encs_getE (l : List Ty) (i : Nat) (h : i < (encs l).length) : (encs l)[i] = enc (l[i]'(by simpa using h)) := by simp [encs_map]
theorem enc_eq (t : Ty) : enc t = .ag [.i .i64 t.kind, .s t.name, .i .i64 t.index, .sl (encs t.args)] := by cases t; rfl
@[simp] theorem ty_eta (t : Ty) : (⟨t.kind, t.name, t.index, t.args⟩ : Ty) = t := by cases t; rfl
/-- A term's cells. -/
@[simp] theorem cellsD_enc (t : Ty) : cellsD (enc t) = [.i .i64 t.kind, .s t.name, .i .i64 t.index, .sl (encs t.args)] := by rw [enc_eq]; rfl
@[simp] theorem cellsV_enc (t : Ty) : cellsV (.d (enc t)) = some [.d (.i .i64 t.kind), .d (.s t.name), .d (.i .i64 t.index), .d (.sl (encs t.args))] := by rw [enc_eq]; rfl
/-- A variable that holds a term. -/
abbrev tbox (t : Ty) : Ob := .box [.d (.i .i64 t.kind), .d (.s t.name), .d (.i .i64 t.index), .d (.sl (encs t.args))]
@[simp] theorem toD_enc (k : Int) (nm : ByteArray) (ix : Int) (as : List Ty) (h : Heap) : toD (.ag [.d (.i .i64 k), .d (.s nm), .d (.i .i64 ix), .d (.sl (encs as))]) h = some (enc ⟨k, nm, ix, as⟩, h) := rfl
@[simp] theorem toD_encz (k : Int) (nm : ByteArray) (ix : Int) (as : List Ty) (h : Heap) : toD (.ag [.d (.i .i64 k), .d (.s nm), .d (.i .i64 ix), .zl (encs as)]) h = some (enc ⟨k, nm, ix, as⟩, h) := rfl
@[simp] theorem toD_enc0 (k : Int) (nm : ByteArray) (ix : Int) (h : Heap) : toD (.ag [.d (.i .i64 k), .d (.s nm), .d (.i .i64 ix), .zl []]) h = some (enc ⟨k, nm, ix, []⟩, h) := rfl
@[simp] theorem toD_encn (k : Int) (nm : ByteArray) (ix : Int) (h : Heap) : toD (.ag [.d (.i .i64 k), .d (.s nm), .d (.i .i64 ix), .d (.sl [])]) h = some (enc ⟨k, nm, ix, []⟩, h) := rfl
@[simp] theorem toD_d (x : D) (h : Heap) : toD (.d x) h = some (x, h) := by cases x <;> rfl
@[simp] theorem toD_zl (l : List D) (h : Heap) : toD (.zl l) h = some (.sl l, h) := rfl
@[simp] theorem vElt_enc (t : Ty) : vElt 4 (some (enc t)) = some (.pe [.d (.i .i64 t.kind), .d (.s t.name), .d (.i .i64 t.index), .d (.sl (encs t.args))] 0) := by rw [enc_eq]; rfl
@[simp] theorem okV_enc (t : Ty) : okV (.d (enc t)) = true := by rw [enc_eq]; rfl
@[simp] theorem outD_d (x : D) (h : Heap) : outD (.d x) h = some (.d x, h) := by cases x <;> rfl
@[simp] theorem headSz_nil (s : Nat) : headSz [] s = true := rfl
@[simp] theorem headSz_enc (t : Ty) (l : List D) : headSz (enc t :: l) 4 = true := by simp [headSz]
@[simp] theorem headSz_encs (l : List Ty) : headSz (encs l) 4 = true := by cases l <;> simp [headSz]
theorem natA_i (k : IntKind) (i : Nat) : natA (.d (.i k (i : Int))) = some i := rfl
@[simp] theorem natA_cast (k : IntKind) (i : Nat) : natA (.d (.i k (Nat.cast i))) = some i := rfl
@[simp] theorem natA_0 (k : IntKind) : natA (.d (.i k 0)) = some 0 := rfl
@[simp] theorem natA_1 (k : IntKind) : natA (.d (.i k 1)) = some 1 := rfl
theorem natA_toNat {k : IntKind} {i : Int} (h : 0 ≤ i) : natA (.d (.i k i)) = some i.toNat := by
  obtain ⟨m, rfl⟩ := Int.eq_ofNat_of_zero_le h
  rfl
@[simp] theorem len_sl (l : List D) : vLen false (.d (.sl l)) = some (.d (.i .i64 (l.length : Int))) := rfl
@[simp] theorem len_zl (l : List D) : vLen false (.zl l) = some (.d (.i .i64 (l.length : Int))) := rfl
@[simp] theorem len_bs (l : List D) : vLen false (.bs l) = some (.d (.i .i64 (l.length : Int))) := rfl
@[simp] theorem len_rw (a lo n : Nat) : vLen false (.sl a lo n) = some (.d (.i .i64 (n : Int))) := rfl
@[simp] theorem len_s (s : ByteArray) : vLen true (.d (.s s)) = some (.d (.i .i64 (s.size : Int))) := rfl
@[simp] theorem initE_nil (i : Nat) (e : Env) : initE i [] e = e := rfl
@[simp] theorem initE_cons (i : Nat) (v : AV) (vs : List AV) (e : Env) : initE i (v :: vs) e = initE (i + 1) vs (putE e (some i) v) := rfl
@[simp] theorem evs_nil (e : Env) : evs e [] = [] := rfl
@[simp] theorem evs_cons (e : Env) (x : Opd) (l : List Opd) : evs e (x :: l) = x.ev e :: evs e l := rfl
@[simp] theorem get_set_same (h : Heap) (k : Nat) (ob : Ob) : T.get (T.set h k ob) k = some ob := by rw [T.get_set, if_pos rfl]
theorem get_set_ne {h : Heap} {k j : Nat} {ob : Ob} (hne : j ≠ k) : T.get (T.set h k ob) j = T.get h j := by rw [T.get_set, if_neg hne]
@[simp] theorem ble_dec (a b : Nat) : Nat.ble a b = decide (a ≤ b) := by
  rw [Bool.eq_iff_iff]; simp
@[simp] theorem blt_dec (a b : Nat) : Nat.blt a b = decide (a < b) := by
  rw [Bool.eq_iff_iff]; simp
@[simp] theorem bin_s (op : BinOp) (t : Nat) (a b : ByteArray) : binA op t (.d (.s a)) (.d (.s b)) = binS op a b := rfl
@[simp] theorem binS_eql (a b : ByteArray) : binS .eql a b = some (.b (decide (a.toList = b.toList))) := by simp only [binS]; rw [show (a.toList == b.toList) = decide (a.toList = b.toList) from by rw [Bool.eq_iff_iff]; simp]
@[simp] theorem binS_neq (a b : ByteArray) : binS .neq a b = some (.b (decide (a.toList ≠ b.toList))) := by simp only [binS]; rw [show (a.toList == b.toList) = decide (a.toList = b.toList) from by rw [Bool.eq_iff_iff]; simp]; simp
@[simp] theorem binS_lss (a b : ByteArray) : binS .lss a b = some (.b (Op.bytesLess a.toList b.toList)) := rfl
@[simp] theorem binS_add (a b : ByteArray) : binS .add a b = if a.size + b.size < 4611686018427387904 then some (.s (a ++ b)) else none := by
  simp only [binS, blt_dec]
  by_cases h : a.size + b.size < 4611686018427387904 <;> simp [h]
@[simp] theorem ba_lit (l : List UInt8) : (ByteArray.mk l.toArray).toList = l := by rw [ByteArray.toList_eq]
def ldO (n : Option Nat) (o : Nat) : Option Ob → Option AV
  | some (.box cs) => loadC n o cs
  | some (.row sz l _) => (match l[o / sz]? with
    | some x => loadD n (o % sz) (cellsD x)
    | none => none)
  | _ => none
@[simp] theorem loadA_p (n : Option Nat) (a o : Nat) (h : Heap) : loadA n (.p a o) h = ldO n o (T.get h a) := by
  simp only [loadA, ldO]
  cases T.get h a with
  | none => rfl
  | some ob => cases ob <;> rfl
@[simp] theorem loadA_pe (n : Option Nat) (l : List AV) (o : Nat) (h : Heap) : loadA n (.pe l o) h = loadC n o l := rfl
@[simp] theorem ldO_box (n : Option Nat) (o : Nat) (cs : List AV) : ldO n o (some (.box cs)) = loadC n o cs := rfl
@[simp] theorem loadC_none (o : Nat) (cs : List AV) : loadC none o cs = cs[o]? := rfl
@[simp] theorem loadC_some (s o : Nat) (cs : List AV) : loadC (some s) o cs = if o + s ≤ cs.length then some (.ag ((cs.drop o).take s)) else none := by
  simp only [loadC, ble_dec]
  by_cases h : o + s ≤ cs.length <;> simp [h]
@[simp] theorem vFld_p (off a o : Nat) : vFld off (.p a o) = some (.p a (o + off)) := rfl
@[simp] theorem vFld_pe (off : Nat) (l : List AV) (o : Nat) : vFld off (.pe l o) = some (.pe l (o + off)) := rfl
@[simp] theorem vIdxa_sl (sz : Nat) (l : List D) (i : Nat) (h : Heap) : vIdxa sz (.d (.sl l)) (some i) h = vElt sz l[i]? := rfl
@[simp] theorem vIdxa_zl (sz : Nat) (l : List D) (i : Nat) (h : Heap) : vIdxa sz (.zl l) (some i) h = vElt sz l[i]? := rfl
@[simp] theorem vIdxa_bs (sz : Nat) (l : List D) (i : Nat) (h : Heap) : vIdxa sz (.bs l) (some i) h = vElt sz l[i]? := rfl
@[simp] theorem vIdxa_row (sz a lo m i : Nat) (h : Heap) : vIdxa sz (.sl a lo m) (some i) h = if i < m then vRow sz a (lo + i) (T.get h a) else none := by
  simp only [vIdxa, blt_dec]
  by_cases hh : i < m <;> simp [hh]
@[simp] theorem bin_i (op : BinOp) (t : Nat) (k : IntKind) (a b : Int) (ho : op ≠ .shl ∧ op ≠ .shr) : binA op t (.d (.i k a)) (.d (.i k b)) = binI op k a b := by
  cases op <;> simp_all [binA]
@[simp] theorem binI_add (k : IntKind) (a b : Int) : binI .add k a b = some (.i k (k.wrap (a + b))) := rfl
@[simp] theorem binI_sub (k : IntKind) (a b : Int) : binI .sub k a b = some (.i k (k.wrap (a - b))) := rfl
@[simp] theorem binI_eql (k : IntKind) (a b : Int) : binI .eql k a b = some (.b (decide (a = b))) := by simp only [binI]; rw [show (a == b) = decide (a = b) from by rw [Bool.eq_iff_iff]; simp]
@[simp] theorem binI_neq (k : IntKind) (a b : Int) : binI .neq k a b = some (.b (decide (a ≠ b))) := by simp only [binI]; rw [show (a != b) = decide (a ≠ b) from by rw [Bool.eq_iff_iff]; simp]
@[simp] theorem binI_lss (k : IntKind) (a b : Int) : binI .lss k a b = some (.b (a < b)) := rfl
@[simp] theorem binI_leq (k : IntKind) (a b : Int) : binI .leq k a b = some (.b (a ≤ b)) := rfl
@[simp] theorem binI_gtr (k : IntKind) (a b : Int) : binI .gtr k a b = some (.b (a > b)) := rfl
@[simp] theorem binI_geq (k : IntKind) (a b : Int) : binI .geq k a b = some (.b (a ≥ b)) := rfl
@[simp] theorem max_n (k k' : IntKind) (a b : Nat) : vMax (.d (.i k a)) (.d (.i k' b)) = some (.d (.i k (max a b : Nat))) := by
  simp only [vMax]
  by_cases h : (b : Int) > a
  · rw [decide_eq_true h, cond_true, show max a b = b by omega]
  · rw [decide_eq_false h, cond_false, show max a b = a by omega]
@[simp] theorem un_not (b : Bool) : unA .not (.d (.b b)) = some (.b (!b)) := rfl
@[simp] theorem pick_t (a b : AV) : vPick (.d (.b true)) a b = some a := rfl
@[simp] theorem pick_f (a b : AV) : vPick (.d (.b false)) a b = some b := rfl
section
variable {F : Nat → Option CFun}
theorem abs_Q {c : CCode} {s : St} {Q : Out → Prop} (h : ∀ Q', Q' = Q → Wp F c s Q') : Wp F c s Q := h Q rfl
/-- A loop ends where each round keeps I and lowers its number. -/
theorem loop_rule {b : CCode} {Q : Out → Prop} (I : Nat → Env → Heap → Nat → Prop) (hs : ∀ m e h n, I m e h n → (∀ e' h' n' m', I m' e' h' n' → m' < m → Wp F (.loop b) ⟨e', h', n'⟩ Q) → Wp F b ⟨e, h, n⟩ (thn F (.loop b) Q)) {e : Env} {h : Heap} {n : Nat} (m : Nat) (hI : I m e h n) : Wp F (.loop b) ⟨e, h, n⟩ Q := by
  induction m using Nat.strongRecOn generalizing e h n with
  | _ m ih =>
    rw [loop_iff]
    exact hs m e h n hI fun e' h' n' m' hI' hm => ih m' hm hI'
/-- The loops' bodies, from the left. -/
def lps : CCode → List CCode
  | .seq a b => lps a ++ lps b
  | .cond _ a b => lps a ++ lps b
  | .block _ b => lps b
  | .loop b => b :: lps b
  | _ => []
def lp (c : CCode) (i : Nat) : CCode := (lps c).getD i .skip
/-- A function's results to data. -/
structure Res (F : Nat → Option CFun) (g : Nat) (as : List D) (rs : List AV) : Prop where
  fact : Fact F g (as.map .d) (rs.map .v)
  bor : ∀ cf, F g = some cf → cf.bor = false
def toDs : List AV → Heap → Option (List D × Heap)
  | [], h => some ([], h)
  | v :: l, h => match toD v h with
    | some (x, h) => (match toDs l h with
      | some (r, h) => some (x :: r, h)
      | none => none)
    | none => none
theorem argsD_of : ∀ {l : List AV} {h h' : Heap} {ds : List D}, toDs l h = some (ds, h') → argsD false l h = some (ds.map .d, h')
  | [], h, h', ds, e => by simp only [toDs, Option.some.injEq, Prod.mk.injEq] at e; obtain ⟨rfl, rfl⟩ := e; rfl
  | v :: l, h, h', ds, e => by
    simp only [toDs] at e
    split at e
    · rename_i x h1 hx
      split at e
      · rename_i r h2 hr
        simp only [Option.some.injEq, Prod.mk.injEq] at e
        obtain ⟨rfl, rfl⟩ := e
        simp only [argsD, argD, hx, argsD_of hr, List.map_cons]
      · cases e
    · cases e
theorem cw_ans {g : Nat} {args : List AV} {ds : List D} {rs : List AV} {h h' : Heap} {n : Nat} {Q : AV → Heap → Nat → Prop} (hA : Res F g ds rs) (ha : toDs args h = some (ds, h')) (hq : Q (tup rs) h' n) : Cw F g args h n Q := by
  obtain ⟨K, hK⟩ := hA.fact
  obtain ⟨cf, hF, hp⟩ := runP_some hK
  exact cl_fact ⟨K, hK⟩ hF hp (by rw [hA.bor cf hF]; exact argsD_of ha) hq
theorem cw_res {g : Nat} {args : List AV} {ds : List D} {rs : List AV} {h : Heap} {n : Nat} {Q : AV → Heap → Nat → Prop} (hA : Res F g ds rs) (ha : toDs args h = some (ds, h)) (hq : Q (tup rs) h n) : Cw F g args h n Q := cw_ans hA ha hq
/-- The end of a function that answers with data. -/
def fin (R : List (Opd × Option (Option Nat))) (rs : List AV) : Out → Prop
  | .nor s => ∃ l, resVs s.e R s.h = some l ∧ ∃ h', outsD l s.h = some (rs, h')
  | .rt s => ∃ l, resVs s.e R s.h = some l ∧ ∃ h', outsD l s.h = some (rs, h')
  | _ => False
/-- The results are there. -/
def got (r : Option (List AV)) (h : Heap) (rs : List AV) : Prop := ∃ l, r = some l ∧ ∃ h', outsD l h = some (rs, h')
@[simp] theorem got_some {l : List AV} {h : Heap} {rs : List AV} : got (some l) h rs ↔ ∃ h', outsD l h = some (rs, h') := by
  unfold got
  exact ⟨fun ⟨l', h1, h2⟩ => by cases h1; exact h2, fun h => ⟨l, rfl, h⟩⟩
@[simp] theorem fin_nor {R : List (Opd × Option (Option Nat))} {rs : List AV} {s : St} : fin R rs (.nor s) ↔ got (resVs s.e R s.h) s.h rs := Iff.rfl
@[simp] theorem fin_rt {R : List (Opd × Option (Option Nat))} {rs : List AV} {s : St} : fin R rs (.rt s) ↔ got (resVs s.e R s.h) s.h rs := Iff.rfl
@[simp] theorem fin_ex {R : List (Opd × Option (Option Nat))} {rs : List AV} {i : Nat} {s : St} : fin R rs (.ex i s) ↔ False := Iff.rfl
@[simp] theorem resVs_nil (e : Env) (h : Heap) : resVs e [] h = some [] := rfl
@[simp] theorem resVs_t (e : Env) (h : Heap) (x : Opd) (l : List (Opd × Option (Option Nat))) : resVs e ((x, none) :: l) h = bif okV (x.ev e) then (match resVs e l h with | some r => some (x.ev e :: r) | none => none) else none := rfl
@[simp] theorem okV_d (x : D) : okV (.d x) = true := rfl
@[simp] theorem outsD_nil (h : Heap) : outsD [] h = some ([], h) := rfl
@[simp] theorem outsD_d (x : D) (l : List AV) (h : Heap) : outsD (.d x :: l) h = (match outsD l h with | some (l, h) => some (.d x :: l, h) | none => none) := by
  simp only [outsD, outD_d]
  cases outsD l h <;> rfl
theorem res_of {g : Nat} {cf : CFun} {as : List D} {rs : List AV} (hF : F g = some cf) (hp : cf.pure = true) (hb : cf.bor = false) (ho : cf.own = false) (hw : Wp F cf.body ⟨initE 0 (as.map .d) .lf, .lf, 0⟩ (fin cf.results rs)) : Res F g as rs := by
  refine ⟨fact_of_wp hF hp (hw.mono fun o h => ?_), fun cf' h => by rw [hF] at h; cases h; exact hb⟩
  have key : ∀ s : St, (∃ l, resVs s.e cf.results s.h = some l ∧ ∃ h', outsD l s.h = some (rs, h')) → prsOf cf s = some (rs.map .v) := fun s ⟨l, h1, h', h2⟩ => by
    simp only [prsOf, h1, ho, h2]
  cases o with
  | nor s => exact key s h
  | rt s => exact key s h
  | _ => exact h.elim
end
end Tm
/- Rows that grow; checks; results that are rows. No statement of the seat is proved here. -/
set_option linter.unusedVariables false
set_option linter.unusedSimpArgs false
namespace Tm
open Go
mutual
theorem beqD_self : ∀ x : D, beqD x x = true
  | .i k n => by simp [beqD]
  | .b x => by simp [beqD]
  | .s x => by simp [beqD]
  | .nif => rfl
  | .se => rfl
  | .sl l => by simp [beqD, beqDs_self l]
  | .ag l => by simp [beqD, beqDs_self l]
theorem beqDs_self : ∀ l : List D, beqDs l l = true
  | [] => rfl
  | x :: l => by simp [beqDs, beqD_self x, beqDs_self l]
end
attribute [simp] beqD_self beqDs_self
@[simp] theorem beqV_d (x : D) : beqV (.d x) (.d x) = true := by simp [beqV]
@[simp] theorem beqV_p (a o : Nat) : beqV (.p a o) (.p a o) = true := by simp [beqV]
@[simp] theorem beqV_sl (a o n : Nat) : beqV (.sl a o n) (.sl a o n) = true := by simp [beqV]
@[simp] theorem beqV_zl (l : List D) : beqV (.zl l) (.zl l) = true := by simp [beqV]
@[simp] theorem beqV_bs (l : List D) : beqV (.bs l) (.bs l) = true := by simp [beqV]
@[simp] theorem beqVs_nil : beqVs [] [] = true := rfl
@[simp] theorem beqVs_cons (x y : AV) (l m : List AV) : beqVs (x :: l) (y :: m) = (beqV x y && beqVs l m) := rfl
@[simp] theorem beqV_ag (l m : List AV) : beqV (.ag l) (.ag m) = beqVs l m := rfl
@[simp] theorem beqV_pe (l m : List AV) (o p : Nat) : beqV (.pe l o) (.pe m p) = (beqVs l m && o == p) := rfl
@[simp] theorem seen_cons {n0 : Nat} {fr : Bool} {q : Nat × Option Nat × Option (Nat × Bool) × COp} {chk : List (Nat × Option Nat × Option (Nat × Bool) × COp)} {ap : Bool} {e : Env} {d : Option Nat} {n : Nat} {v : AV} {h' : Heap} : seen n0 fr (q :: chk) ap e d n v h' = (again n0 ⟨putE e d v, h', n⟩ q && seen n0 fr chk ap e d n v h') := by
  simp only [seen, List.all_cons]
  cases fr <;> cases again n0 ⟨putE e d v, h', n⟩ q <;> simp
/-- An operation that reads is looked at again. -/
def agn (r : R1) (v : AV) : Bool := match r with
  | some (u, _) => beqV u v
  | none => false
def notAl : COp → Bool
  | .alloc _ | .box _ | .mkmap | .mkslice .. => false
  | _ => true
theorem agn_of {n0 i t : Nat} {c : COp} {e : Env} {h : Heap} {n : Nat} (hc : notAl c = true) : again n0 ⟨e, h, n⟩ (i, some t, none, c) = agn (evOp c e h (n0 + i)) (e.at t) := by
  unfold again agn Env.at
  simp only [wants]
  cases c <;> first | (simp [notAl] at hc; done) | (dsimp only; generalize evOp _ e h (n0 + i) = r; cases r with | none => rfl | some p => rfl)
/-- A value appended. -/
def appV (sz : Nat) (x y : AV) (h : Heap) (k : Nat) : R1 := match y with
  | .d (.s s) => bif sz == 1 then appA sz x (bytesD s) h k else none
  | .sl a lo n => (match h.get a with
      | some (.row s l _) => (match sub l lo n with
        | some ys => bif s == sz then appA sz x ys h k else none
        | none => none)
      | _ => none)
  | y => (match elems y h with
      | some ys => bif headSz ys sz then appA sz x ys h k else none
      | none => none)
@[simp] theorem evOp_app (sz : Nat) (x y : Opd) (e : Env) (h : Heap) (k : Nat) : evOp (.app sz x y) e h k = appV sz (x.ev e) (y.ev e) h k := by
  simp only [evOp, appV]
  cases y.ev e <;> first | rfl | (rename_i z; cases z <;> rfl)
theorem appV_zl {sz : Nat} {x : AV} {ys : List D} {h : Heap} {k : Nat} (hs : headSz ys sz = true) : appV sz x (.zl ys) h k = appA sz x ys h k := by simp [appV, elems, hs]
theorem appV_d {sz : Nat} {x : AV} {ys : List D} {h : Heap} {k : Nat} (hs : headSz ys sz = true) : appV sz x (.d (.sl ys)) h k = appA sz x ys h k := by simp [appV, elems, hs]
@[simp] theorem appV_se {sz : Nat} {x : AV} {h : Heap} {k : Nat} : appV sz x (.d .se) h k = appA sz x [] h k := by simp [appV, elems, headSz]
@[simp] theorem appV_cut {sz : Nat} {x : AV} {ys : List D} {h : Heap} {k : Nat} (hs : headSz ys sz = true) : appV sz x (.d (cutD ys)) h k = appA sz x ys h k := by
  cases ys with
  | nil => simp [cutD]
  | cons y ys => exact appV_d hs
attribute [simp] appV_zl appV_d
theorem appV_row {sz : Nat} {x : AV} {h : Heap} {k a lo n : Nat} {l : List D} {z : Bool} (hr : h.get a = some (.row sz l z)) (hl : lo + n ≤ l.length) : appV sz x (.sl a lo n) h k = appA sz x ((l.drop lo).take n) h k := by simp [appV, hr, sub, hl]
@[simp] theorem appA_zl0 {sz : Nat} {l : List D} {h : Heap} {k : Nat} : appA sz (.zl l) [] h k = some (.zl l, h) := rfl
@[simp] theorem appA_sl0 {sz a lo m : Nat} {h : Heap} {k : Nat} : appA sz (.sl a lo m) [] h k = some (.sl a lo m, h) := rfl
@[simp] theorem appA_d0 {sz : Nat} {l : List D} {h : Heap} {k : Nat} : appA sz (.d (.sl l)) [] h k = some (.d (.sl l), h) := by cases l <;> rfl
theorem appA_zl {sz : Nat} {l ys : List D} {h : Heap} {k : Nat} (hy : ys ≠ []) (hn : l.length + ys.length < 4294967296) (hs : headSz l sz = true) : appA sz (.zl l) ys h k = some (.sl k 0 (l.length + ys.length), h.set k (.row sz (l ++ ys) false)) := by
  cases ys with
  | nil => exact absurd rfl hy
  | cons y ys => simp [appA, hs, show l.length + (ys.length + 1) < 4294967296 by simpa using hn]
theorem appA_d {sz : Nat} {ys : List D} {h : Heap} {k : Nat} (hy : ys ≠ []) (hn : ys.length < 4294967296) (hs : headSz ys sz = true) : appA sz (.d (.sl [])) ys h k = some (.sl k 0 ys.length, h.set k (.row sz ys false)) := by
  cases ys with
  | nil => exact absurd rfl hy
  | cons y ys => simp [appA, hs, show ys.length + 1 < 4294967296 by simpa using hn]
theorem appA_sl {sz a lo m : Nat} {l ys : List D} {z : Bool} {h : Heap} {k : Nat} (hy : ys ≠ []) (hr : h.get a = some (.row sz l z)) (hm : lo + m = l.length) (hn : l.length + ys.length < 4294967296) : appA sz (.sl a lo m) ys h k = some (.sl k 0 (m + ys.length), (h.del a).set k (.row sz (l.drop lo ++ ys) z)) := by
  cases ys with
  | nil => exact absurd rfl hy
  | cons y ys => simp [appA, hr, hm, show l.length + (ys.length + 1) < 4294967296 by simpa using hn]
/-- A list of the function's own, of elements of sz cells. -/
def Own (h : Heap) (sz : Nat) (v : AV) (l : List D) : Prop := (v = .zl [] ∧ l = []) ∨ (l ≠ [] ∧ ∃ a, v = .sl a 0 l.length ∧ h.get a = some (.row sz l false))
theorem Own.nil {h : Heap} {sz : Nat} : Own h sz (.zl []) [] := .inl ⟨rfl, rfl⟩
/-- What lies elsewhere stays: all but k and the rows of which v is one. -/
structure Kept (k : Nat) (v : AV) (h h' : Heap) : Prop where
  at_ : ∀ b ob, h.get b = some ob → (∀ lo m, v ≠ .sl b lo m) → b ≠ k → h'.get b = some ob
  free : ∀ b, h.get b = none → b ≠ k → h'.get b = none
theorem Kept.refl {k : Nat} {v : AV} {h : Heap} : Kept k v h h := ⟨fun _ _ h _ _ => h, fun _ h _ => h⟩
theorem own_app {h : Heap} {sz : Nat} {v : AV} {l ys : List D} {k : Nat} (ho : Own h sz v l) (hs : headSz ys sz = true) (hn : l.length + ys.length < 4294967296) : ∃ v' h', appA sz v ys h k = some (v', h') ∧ Own h' sz v' (l ++ ys) ∧ Kept k v h h' ∧ (v' = v ∧ h' = h ∨ ∃ m, v' = .sl k 0 m) := by
  by_cases hy : ys = []
  · subst hy
    rcases ho with ⟨rfl, rfl⟩ | ⟨hl, a, rfl, ha⟩
    · exact ⟨_, _, rfl, .inl ⟨rfl, rfl⟩, Kept.refl, .inl ⟨rfl, rfl⟩⟩
    · exact ⟨_, _, rfl, .inr ⟨by simpa using hl, a, by simp, by simpa using ha⟩, Kept.refl, .inl ⟨rfl, rfl⟩⟩
  · rcases ho with ⟨rfl, rfl⟩ | ⟨hl, a, rfl, ha⟩
    · refine ⟨_, _, appA_zl hy (by simpa using hn) rfl, .inr ⟨by simpa using hy, k, by simp, by simp⟩, ⟨fun b ob hb _ hk => by rw [get_set_ne hk]; exact hb, fun b hb hk => by rw [get_set_ne hk]; exact hb⟩, .inr ⟨_, rfl⟩⟩
    · refine ⟨_, _, appA_sl hy ha (by simp) hn, .inr ⟨by simp [hl], k, by simp, by simp⟩, ⟨fun b ob hb hv hk => ?_, fun b hb hk => ?_⟩, .inr ⟨_, rfl⟩⟩
      · rw [get_set_ne hk, T.get_del, if_neg (fun e => hv 0 l.length (by rw [e]))]; exact hb
      · rw [get_set_ne hk, T.get_del]; split <;> first | rfl | exact hb
theorem opw_own {F : Nat → Option CFun} {h : Heap} {sz : Nat} {v : AV} {l ys : List D} {k : Nat} {f : AV → Heap → Bool} {n0 : Nat} {L : List (Nat × COper)} {e : Env} {d : Option Nat} {n : Nat} {Q : Env → Heap → Nat → Prop} (ho : Own h sz v l) (hs : headSz ys sz = true) (hn : l.length + ys.length < 4294967296)
    (hq : ∀ v' h', Own h' sz v' (l ++ ys) → Kept k v h h' → (v' = v ∧ h' = h ∨ ∃ m, v' = .sl k 0 m) → f v' h' = true ∧ Wo F n0 L (putE e d v') h' n Q) : opw F (appA sz v ys h k) f n0 L e d n Q := by
  obtain ⟨v', h', e1, e2, e3, e4⟩ := own_app (k := k) ho hs hn
  rw [e1, opw_some]
  exact hq v' h' e2 e3 e4
/-- What is no row stays. -/
theorem Kept.box {k : Nat} {v : AV} {h h' : Heap} {sz : Nat} {l : List D} (hk : Kept k v h h') (ho : Own h sz v l) {b : Nat} {cs : List AV} (hb : h.get b = some (.box cs)) (hne : b ≠ k) : h'.get b = some (.box cs) := hk.at_ b _ hb (fun lo m e => by
  rcases ho with ⟨rfl, _⟩ | ⟨_, a, rfl, ha⟩
  · cases e
  · cases e; rw [hb] at ha; cases ha) hne
/-- No object has a name from n on. -/
def Fre (h : Heap) (n : Nat) : Prop := ∀ b, n ≤ b → h.get b = none
theorem Fre.lf (n : Nat) : Fre .lf n := fun _ _ => rfl
theorem Fre.set {h : Heap} {n m k : Nat} {ob : Ob} (hf : Fre h n) (hk : k < m) (hnm : n ≤ m) : Fre (h.set k ob) m := fun b hb => by rw [get_set_ne (by omega)]; exact hf b (by omega)
theorem Fre.kept {h h' : Heap} {n m k : Nat} {v : AV} (hf : Fre h n) (hk : Kept k v h h') (h1 : k < m) (h2 : n ≤ m) : Fre h' m := fun b hb => hk.free b (hf b (by omega)) (by omega)
theorem Fre.mono {h : Heap} {n m : Nat} (hf : Fre h n) (h2 : n ≤ m) : Fre h m := fun b hb => hf b (by omega)
theorem toD_row {h : Heap} {a lo n sz : Nat} {l : List D} {z : Bool} (hn : n ≠ 0) (hr : h.get a = some (.row sz l z)) (hl : lo + n ≤ l.length) : toD (.sl a lo n) h = some (.sl ((l.drop lo).take n), h.set a (.row sz l true)) := by
  cases n with
  | zero => exact absurd rfl hn
  | succ n => simp [toD, cellD, hr, sub, hl]
theorem own_toD {h : Heap} {sz : Nat} {v : AV} {l : List D} (ho : Own h sz v l) : ∃ h', toD v h = some (.sl l, h') := by
  rcases ho with ⟨rfl, rfl⟩ | ⟨hl, a, rfl, ha⟩
  · exact ⟨h, rfl⟩
  · exact ⟨h.set a (.row sz l true), by rw [toD_row (by intro e; exact hl (List.eq_nil_of_length_eq_zero e)) ha (by simp)]; simp⟩
theorem own_okV {h : Heap} {sz : Nat} {v : AV} {l : List D} (ho : Own h sz v l) : okV v = true := by
  rcases ho with ⟨rfl, rfl⟩ | ⟨hl, a, rfl, ha⟩ <;> rfl
theorem own_outD {h : Heap} {sz : Nat} {v : AV} {l : List D} (ho : Own h sz v l) : ∃ h', outD v h = some (.d (.sl l), h') := by
  obtain ⟨h', e⟩ := own_toD ho
  rcases ho with ⟨rfl, rfl⟩ | ⟨hl, a, rfl, ha⟩
  · exact ⟨_, rfl⟩
  · exact ⟨h', by simp only [outD, e]⟩
theorem got_own {h : Heap} {sz : Nat} {v : AV} {l : List D} (ho : Own h sz v l) : got (some [v]) h [.d (.sl l)] := by
  obtain ⟨h', e⟩ := own_outD ho
  exact ⟨_, rfl, h', by simp only [outsD, e]⟩
theorem own_len {h : Heap} {sz : Nat} {v : AV} {l : List D} (ho : Own h sz v l) : vLen false v = some (.d (.i .i64 (l.length : Int))) := by
  rcases ho with ⟨rfl, rfl⟩ | ⟨hl, a, rfl, ha⟩ <;> rfl
end Tm
/- Slice literals, parts of slices, lists of numbers. No statement of the seat is proved here. -/
set_option linter.unusedVariables false
set_option linter.unusedSimpArgs false
namespace Tm
open Go
def encI (l : List Int) : List D := l.map (.i .i64)
@[simp] theorem encI_nil : encI [] = [] := rfl
@[simp] theorem encI_cons (x : Int) (l : List Int) : encI (x :: l) = .i .i64 x :: encI l := rfl
@[simp] theorem encI_len (l : List Int) : (encI l).length = l.length := by simp [encI]
@[simp] theorem encI_app (l m : List Int) : encI l ++ encI m = encI (l ++ m) := by simp [encI]
@[simp] theorem encI_app1 (l m : List Int) (x : Int) : encI l ++ .i .i64 x :: encI m = encI (l ++ x :: m) := by simp [encI]
@[simp] theorem encI_app2 (l : List Int) (x : Int) : encI l ++ [.i .i64 x] = encI (l ++ [x]) := by simp [encI]
theorem encI_get (l : List Int) (i : Nat) (hi : i < l.length) : (encI l)[i]? = some (.i .i64 l[i]) := by simp [encI, hi]
@[simp] theorem encI_getE (l : List Int) (i : Nat) (h : i < (encI l).length) : (encI l)[i] = .i .i64 (l[i]'(by simpa using h)) := by simp [encI]
@[simp] theorem headSz_encI (l : List Int) : headSz (encI l) 1 = true := by cases l <;> simp [headSz, cellsD]
@[simp] theorem vElt_i (k : IntKind) (x : Int) : vElt 1 (some (.i k x)) = some (.pe [.d (.i k x)] 0) := rfl
@[simp] theorem vElt_s (x : ByteArray) : vElt 1 (some (.s x)) = some (.pe [.d (.s x)] 0) := rfl
@[simp] theorem encI_take (l : List Int) (i : Nat) : (encI l).take i = encI (l.take i) := by simp [encI, List.map_take]
@[simp] theorem encI_drop (l : List Int) (i : Nat) : (encI l).drop i = encI (l.drop i) := by simp [encI, List.map_drop]
@[simp] theorem encs_take (l : List Ty) (i : Nat) : (encs l).take i = encs (l.take i) := by simp [encs_map, List.map_take]
@[simp] theorem encs_drop (l : List Ty) (i : Nat) : (encs l).drop i = encs (l.drop i) := by simp [encs_map, List.map_drop]
@[simp] theorem cells_i (k : IntKind) (x : Int) : cellsD (.i k x) = [.i k x] := rfl
@[simp] theorem cells_s (x : ByteArray) : cellsD (.s x) = [.s x] := rfl
@[simp] theorem cells_b (x : Bool) : cellsD (.b x) = [.b x] := rfl
theorem headSz_take {l : List D} {s : Nat} (h : headSz l s = true) (i : Nat) : headSz (l.take i) s = true := by
  cases l with
  | nil => simpa using h
  | cons x l => cases i with
    | zero => rfl
    | succ i => exact h
/-- A part of a slice. -/
def slW (e : Env) (s : Nat) (v : AV) (lo hi : Option Opd) (h : Heap) : Option AV := match evOp (.sl s (.c v) lo hi none) e h 0 with
  | some (v, _) => some v
  | none => none
theorem slW_eq {s : Nat} {x : Opd} {lo hi : Option Opd} {e : Env} {h : Heap} {k : Nat} : (evOp (.sl s x lo hi none) e h k).map (·.1) = slW e s (x.ev e) lo hi h := by
  have : evOp (.sl s x lo hi none) e h k = evOp (.sl s (.c (x.ev e)) lo hi none) e h 0 := rfl
  rw [this]; unfold slW
  cases evOp (.sl s (.c (x.ev e)) lo hi none) e h 0 <;> rfl
@[simp] theorem o_sl2 {F : Nat → Option CFun} {n0 i : Nat} {d : Option Nat} {s : Nat} {x : Opd} {lo hi : Option Opd} {l : List (Nat × COper)} {e : Env} {h : Heap} {n : Nat} {Q : Env → Heap → Nat → Prop} : Wo F n0 ((i, ⟨d, none, .sl s x lo hi none, [], none⟩) :: l) e h n Q ↔ ovw F (slW e s (x.ev e) lo hi h) n0 l e d h n Q := by
  rw [o_sl, slW_eq]
def cut (l : List D) : Option Nat → Option Nat → Option AV
  | some a, some b => if b ≤ l.length ∧ a ≤ b then some (.d (cutD ((l.take b).drop a))) else none
  | _, _ => none
def bnd0 (e : Env) (x : Option Opd) (d : Nat) : Option Nat := match x with
  | none => some d
  | some x => natA (x.ev e)
@[simp] theorem bnd0_none (e : Env) (d : Nat) : bnd0 e none d = some d := rfl
@[simp] theorem bnd0_some (e : Env) (d : Nat) (x : Opd) : bnd0 e (some x) d = natA (x.ev e) := rfl
theorem bnd_0 {e : Env} {x : Option Opd} {d t : Nat} (hd : d ≤ t) : bnd e x d t = match bnd0 e x d with | some a => if a ≤ t then some a else none | none => none := by
  cases x with
  | none => simp [bnd, hd]
  | some x =>
    simp only [bnd, bnd0_some]
    cases natA (x.ev e) with
    | none => rfl
    | some a => by_cases h : a ≤ t <;> simp [h]
@[simp] theorem slW_d {s : Nat} {l : List D} {lo hi : Option Opd} {e : Env} {h : Heap} : slW e s (.d (.sl l)) lo hi h = if headSz l s = true then cut l (bnd0 e lo 0) (bnd0 e hi l.length) else none := by
  unfold slW
  simp only [evOp, ev_c]
  cases hs : headSz l s with
  | false => simp
  | true =>
    simp only [cond_true, if_true]
    rw [bnd_0 (Nat.le_refl _)]
    cases bnd0 e hi l.length with
    | none => cases bnd0 e lo 0 <;> rfl
    | some b =>
      by_cases hb : b ≤ l.length
      · simp only [hb, if_true]
        rw [bnd_0 (Nat.zero_le _)]
        cases bnd0 e lo 0 with
        | none => rfl
        | some a => by_cases ha : a ≤ b <;> simp [ha, hb, cut]
      · simp only [hb, if_false]
        cases bnd0 e lo 0 <;> simp [cut, hb]
@[simp] theorem cut_some (l : List D) (a b : Nat) : cut l (some a) (some b) = if b ≤ l.length ∧ a ≤ b then some (.d (cutD ((l.take b).drop a))) else none := rfl
/-- A part of a slice of data. -/
theorem sl_d {s : Nat} {l : List D} {x : Opd} {lo hi : Option Opd} {e : Env} {h : Heap} {k a b : Nat} (hx : x.ev e = .d (.sl l)) (hs : headSz l s = true) (hb : bnd e hi l.length l.length = some b) (ha : bnd e lo 0 b = some a) : evOp (.sl s x lo hi none) e h k = some (.d (cutD ((l.take b).drop a)), h) := by
  simp [evOp, hx, hs, hb, ha]
theorem bnd_none {e : Env} {d t : Nat} : bnd e none d t = some d := rfl
theorem bnd_some {e : Env} {x : Opd} {d t a : Nat} (hx : natA (x.ev e) = some a) (ha : a ≤ t) : bnd e (some x) d t = some a := by
  simp [bnd, hx, ha]
@[simp] theorem bs_0 {z : Bool} {zs : List D} {e : Env} {h : Heap} {k : Nat} : evOp (.bslice z zs 0 []) e h k = some (.zl [], h) := rfl
/-- Something is still so. -/
def agW : Option AV → AV → Bool
  | some u, v => beqV u v
  | none, _ => false
@[simp] theorem agW_some (u v : AV) : agW (some u) v = beqV u v := rfl
@[simp] theorem again_sl {n0 i t s : Nat} {x : Opd} {lo hi : Option Opd} {e : Env} {h : Heap} {n : Nat} : again n0 ⟨e, h, n⟩ (i, some t, none, .sl s x lo hi none) = agW (slW e s (x.ev e) lo hi h) (e.at t) := by
  rw [agn_of rfl, ← slW_eq (k := n0 + i)]
  unfold agn
  cases evOp (.sl s x lo hi none) e h (n0 + i) <;> rfl
@[simp] theorem again_load {n0 i t : Nat} {s : Option Nat} {x : Opd} {e : Env} {h : Heap} {n : Nat} : again n0 ⟨e, h, n⟩ (i, some t, none, .load s x) = agW (loadA s (x.ev e) h) (e.at t) := by
  rw [agn_of rfl, v_load]
  unfold agn
  cases loadA s (x.ev e) h <;> rfl
@[simp] theorem again_idxa {n0 i t s : Nat} {x y : Opd} {e : Env} {h : Heap} {n : Nat} : again n0 ⟨e, h, n⟩ (i, some t, none, .idxa s x y) = agW (vIdxa s (x.ev e) (natA (y.ev e)) h) (e.at t) := by
  rw [agn_of rfl, v_idxa]
  unfold agn
  cases vIdxa s (x.ev e) (natA (y.ev e)) h <;> rfl
@[simp] theorem o_appc {F : Nat → Option CFun} {n0 i : Nat} {d : Option Nat} {s : Nat} {x y : Opd} {q : Nat × Option Nat × Option (Nat × Bool) × COp} {chk : List (Nat × Option Nat × Option (Nat × Bool) × COp)} {dis : Option Opd} {l : List (Nat × COper)} {e : Env} {h : Heap} {n : Nat} {Q : Env → Heap → Nat → Prop} :
    Wo F n0 ((i, ⟨d, none, .app s x y, q :: chk, dis⟩) :: l) e h n Q ↔ opw F (appV s (x.ev e) (y.ev e) h (n0 + i)) (seen n0 true (q :: chk) (apart e ⟨d, none, .app s x y, q :: chk, dis⟩) e d n) n0 l e d n Q := by
  rw [opc_iff rfl, evOp_app]; rfl
@[simp] theorem apart_none {e : Env} {d : Option Nat} {g : Option (Nat × Bool)} {c : COp} {chk : List (Nat × Option Nat × Option (Nat × Bool) × COp)} : apart e ⟨d, g, c, chk, none⟩ = true := rfl
/-- A literal of one element. -/
def bs1 (z : Bool) (sz : Nat) (v : AV) (h : Heap) : R1 := match valD z v h with
  | some (d, h) => if (cellsD d).length = sz then some (.zl [d], h) else none
  | none => none
@[simp] theorem bs_1 {z : Bool} {zs : List D} {x : Opd} {e : Env} {h : Heap} {k : Nat} : evOp (.bslice z zs 1 [(0, x)]) e h k = bs1 z zs.length (x.ev e) h := by
  simp only [evOp, fillD, bs1]
  cases valD z (x.ev e) h with
  | none => rfl
  | some p =>
    obtain ⟨d, h'⟩ := p
    by_cases hd : (cellsD d).length = zs.length
    · simp [hd]
    · have : ((cellsD d).length == zs.length) = false := by simpa using hd
      simp [this, hd]
@[simp] theorem valD_t (v : AV) (h : Heap) : valD true v h = toD v h := rfl
@[simp] theorem valD_fb {b : Bool} {h : Heap} : valD false (.d (.b b)) h = some (.b b, h) := rfl
@[simp] theorem valD_fl {l : List D} {h : Heap} : valD false (.d (.sl l)) h = some (.sl l, h) := rfl
@[simp] theorem valD_fz {l : List D} {h : Heap} : valD false (.zl l) h = some (.sl l, h) := rfl
theorem bs1_of {z : Bool} {sz : Nat} {v : AV} {h h' : Heap} {d : D} (hv : valD z v h = some (d, h')) (hd : (cellsD d).length = sz) : bs1 z sz v h = some (.zl [d], h') := by simp [bs1, hv, hd]
theorem bs_1t {zs : List D} {x : Opd} {e : Env} {h h' : Heap} {k : Nat} {d : D} (hx : toD (x.ev e) h = some (d, h')) (hd : (cellsD d).length = zs.length) : evOp (.bslice true zs 1 [(0, x)]) e h k = some (.zl [d], h') := by
  simp [evOp, fillD, valD, hx, hd]
@[simp] theorem valD_fi {k : IntKind} {n : Int} {h : Heap} : valD false (.d (.i k n)) h = some (.i k n, h) := rfl
@[simp] theorem valD_fs {s : ByteArray} {h : Heap} : valD false (.d (.s s)) h = some (.s s, h) := rfl
@[simp] theorem valD_fe {t : Ty} {h : Heap} : valD false (.d (enc t)) h = some (enc t, h) := by rw [enc_eq]; rfl
theorem bs_1f {zs : List D} {x : Opd} {e : Env} {h : Heap} {k : Nat} {d : D} (hx : valD false (x.ev e) h = some (d, h)) (hd : (cellsD d).length = zs.length) : evOp (.bslice false zs 1 [(0, x)]) e h k = some (.zl [d], h) := by
  simp [evOp, fillD, hx, hd]
/-- A term whose arguments are a row of the function's own. -/
theorem own_enc {h : Heap} {v : AV} {l : List Ty} (k : Int) (nm : ByteArray) (ix : Int) (ho : Own h 4 v (encs l)) : ∃ h', toD (.ag [.d (.i .i64 k), .d (.s nm), .d (.i .i64 ix), v]) h = some (enc ⟨k, nm, ix, l⟩, h') := by
  rcases ho with ⟨rfl, hl⟩ | ⟨hl, a, rfl, ha⟩
  · obtain rfl : l = [] := by cases l with | nil => rfl | cons t ts => simp at hl
    exact ⟨h, rfl⟩
  · have hn : (encs l).length ≠ 0 := by intro e; exact hl (List.eq_nil_of_length_eq_zero e)
    have := toD_row (lo := 0) hn ha (by simp)
    refine ⟨h.set a (.row 4 (encs l) true), ?_⟩
    have hc : cellD (.sl a 0 (encs l).length) h = some (.sl (encs l), h.set a (.row 4 (encs l) true)) := by
      have := this
      simp only [toD] at this
      rw [this]; simp
    simp only [toD, cellsToD, hc, show ∀ (x : D) (h : Heap), cellD (.d x) h = some (x, h) from fun _ _ => rfl]
    rw [enc_eq]
theorem outD_ag {l : List AV} {h h' : Heap} {x : D} (ht : toD (.ag l) h = some (x, h')) : outD (.ag l) h = some (.d x, h') := by simp only [outD, ht]
theorem got_ag {l : List AV} {h h' : Heap} {x : D} (ht : toD (.ag l) h = some (x, h')) : got (some [.ag l]) h [.d x] := ⟨_, rfl, h', by simp only [outsD, outD_ag ht]⟩
theorem outs_ag {l : List AV} {h h' : Heap} {x : D} (ht : toD (.ag l) h = some (x, h')) : ∃ h', outsD [.ag l] h = some ([.d x], h') := ⟨h', by simp only [outsD, outD_ag ht]⟩
theorem outs_ty (t : Ty) (h : Heap) : ∃ h', outsD [.ag [.d (.i .i64 t.kind), .d (.s t.name), .d (.i .i64 t.index), .d (.sl (encs t.args))]] h = some ([.d (enc t)], h') := outs_ag (by simp; rfl)
theorem outs_own {h : Heap} {sz : Nat} {v : AV} {l : List D} (ho : Own h sz v l) : ∃ h', outsD [v] h = some ([.d (.sl l)], h') := got_some.1 (got_own ho)
@[simp] theorem okV_ag (l : List AV) : okV (.ag l) = true := rfl
@[simp] theorem resVs_c (e : Env) (h : Heap) (x : Opd) (n : Option Nat) (l : List (Opd × Option (Option Nat))) : resVs e ((x, some n) :: l) h = (match loadA n (x.ev e) h with | some v => bif okV v then (match resVs e l h with | some r => some (v :: r) | none => none) else none | none => none) := rfl
@[simp] theorem cellsV_ag (l : List AV) : cellsV (.ag l) = some l := rfl
@[simp] theorem cellsV_d (k : IntKind) (x : Int) : cellsV (.d (.i k x)) = some [.d (.i k x)] := rfl
@[simp] theorem cellsV_s (x : ByteArray) : cellsV (.d (.s x)) = some [.d (.s x)] := rfl
@[simp] theorem cellsV_b (x : Bool) : cellsV (.d (.b x)) = some [.d (.b x)] := rfl
@[simp] theorem cellsV_dsl (l : List D) : cellsV (.d (.sl l)) = some [.d (.sl l)] := rfl
@[simp] theorem cellsV_zl (l : List D) : cellsV (.zl l) = some [.zl l] := rfl
@[simp] theorem cellsV_sl (a o n : Nat) : cellsV (.sl a o n) = some [.sl a o n] := rfl
@[simp] theorem cellsV_p (a o : Nat) : cellsV (.p a o) = some [.p a o] := rfl
theorem own_cellsV {h : Heap} {sz : Nat} {v : AV} {l : List D} (ho : Own h sz v l) : cellsV v = some [v] := by
  rcases ho with ⟨rfl, rfl⟩ | ⟨hl, a, rfl, ha⟩ <;> rfl
def stO (sz o a : Nat) (vs : Option (List AV)) (h : Heap) : Option Ob → Option Heap
  | some (.box cs) => (match vs with
    | some vs => if vs.length = sz ∧ o + sz ≤ cs.length then some (h.set a (.box (putCells o vs cs))) else none
    | none => none)
  | some (.row s l z) => storeA sz (.p a o) (.ag (vs.getD [])) h
  | _ => none
theorem store_box {sz o a : Nat} {v : AV} {h : Heap} {cs vs : List AV} (hb : h.get a = some (.box cs)) (hv : cellsV v = some vs) : storeA sz (.p a o) v h = if vs.length = sz ∧ o + sz ≤ cs.length then some (h.set a (.box (putCells o vs cs))) else none := by
  simp only [storeA, hb, hv]
  by_cases h1 : vs.length = sz
  · by_cases h2 : o + sz ≤ cs.length <;> simp [h1, h2]
  · have : (vs.length == sz) = false := by simpa using h1
    simp [h1, this]
/-- A store, by what lies there. -/
def stW (sz a o : Nat) (h : Heap) (v : AV) : Option Ob → Option (List AV) → Option Heap
  | some (.box cs), some vs => if vs.length = sz ∧ o + sz ≤ cs.length then some (h.set a (.box (putCells o vs cs))) else none
  | some (.box _), none => none
  | some ob, _ => storeA sz (.p a o) v (T.set .lf a ob) |>.map fun h' => match h'.get a with | some ob' => h.set a ob' | none => h
  | none, _ => none
@[simp] theorem stW_box (sz a o : Nat) (h : Heap) (v : AV) (cs vs : List AV) : stW sz a o h v (some (.box cs)) (some vs) = if vs.length = sz ∧ o + sz ≤ cs.length then some (h.set a (.box (putCells o vs cs))) else none := rfl
@[simp] theorem storeA_p (sz a o : Nat) (v : AV) (h : Heap) : storeA sz (.p a o) v h = stW sz a o h v (T.get h a) (cellsV v) := by
  cases ha : T.get h a with
  | none => simp only [storeA, ha, stW]
  | some ob => cases ob with
    | box cs =>
      cases hv : cellsV v with
      | none => simp only [storeA, ha, hv, stW]
      | some vs => rw [store_box ha hv]; rfl
    | row s l z =>
      simp only [storeA, ha, stW, get_set_same]
      cases z with
      | true => rfl
      | false =>
        cases cellsV v with
        | none => rfl
        | some vs =>
          dsimp only
          cases allD vs with
          | none => rfl
          | some ds =>
            dsimp only
            cases l[o / s]? with
            | none => rfl
            | some x =>
              dsimp only
              cases (ds.length == sz && Nat.ble (o % s + sz) s) <;> simp
    | map ks vs => simp only [storeA, ha, stW, get_set_same]; rfl
@[simp] theorem putCells_nil (o : Nat) (l : List AV) : putCells o [] l = l := by
  cases o <;> cases l <;> rfl
@[simp] theorem putCells_0 (v : AV) (vs : List AV) (x : AV) (l : List AV) : putCells 0 (v :: vs) (x :: l) = v :: putCells 0 vs l := rfl
@[simp] theorem putCells_s (o : Nat) (v : AV) (vs : List AV) (x : AV) (l : List AV) : putCells (o + 1) (v :: vs) (x :: l) = x :: putCells o (v :: vs) l := rfl
theorem own_set {h : Heap} {sz b : Nat} {v : AV} {l : List D} {cs : List AV} {ob : Ob} (ho : Own h sz v l) (hb : h.get b = some (.box cs)) : Own (h.set b ob) sz v l := by
  rcases ho with ⟨rfl, rfl⟩ | ⟨hl, a, rfl, ha⟩
  · exact .inl ⟨rfl, rfl⟩
  · exact .inr ⟨hl, a, rfl, by rw [get_set_ne (fun e => by rw [e, hb] at ha; cases ha)]; exact ha⟩
theorem own_fresh {h : Heap} {sz b : Nat} {v : AV} {l : List D} {ob : Ob} (ho : Own h sz v l) (hb : h.get b = none) : Own (h.set b ob) sz v l := by
  rcases ho with ⟨rfl, rfl⟩ | ⟨hl, a, rfl, ha⟩
  · exact .inl ⟨rfl, rfl⟩
  · exact .inr ⟨hl, a, rfl, by rw [get_set_ne (fun e => by rw [e, hb] at ha; cases ha)]; exact ha⟩
theorem own_ne {h : Heap} {sz b : Nat} {v : AV} {l : List D} {ob : Option Ob} (ho : Own h sz v l) (hb : h.get b = ob) (hr : ∀ s r z, ob ≠ some (.row s r z)) : ∀ lo m, v ≠ .sl b lo m := fun lo m e => by
  rcases ho with ⟨rfl, rfl⟩ | ⟨hl, a, rfl, ha⟩
  · cases e
  · cases e; exact hr _ _ _ (hb.symm.trans ha)
end Tm
/- Declarations as the machine's data; hierarchies that are lent; results of several values. No statement of the seat is proved here. -/
set_option linter.unusedVariables false
set_option linter.unusedSimpArgs false
namespace Tm
open Go
structure Fld where
  name : ByteArray
  ty : Ty
structure Dcl where
  name : ByteArray
  arity : Int
  super : Ty
  conc : Bool
  fields : List Fld
def encF (f : Fld) : D := .ag [.s f.name, .i .i64 f.ty.kind, .s f.ty.name, .i .i64 f.ty.index, .sl (encs f.ty.args)]
def encFs (l : List Fld) : List D := l.map encF
def encD (d : Dcl) : D := .ag [.s d.name, .i .i64 d.arity, .i .i64 d.super.kind, .s d.super.name, .i .i64 d.super.index, .sl (encs d.super.args), .b d.conc, .sl (encFs d.fields)]
def encDs (l : List Dcl) : List D := l.map encD
@[simp] theorem encFs_nil : encFs [] = [] := rfl
@[simp] theorem encFs_cons (f : Fld) (l : List Fld) : encFs (f :: l) = encF f :: encFs l := rfl
@[simp] theorem encFs_len (l : List Fld) : (encFs l).length = l.length := by simp [encFs]
@[simp] theorem encFs_getE (l : List Fld) (i : Nat) (h : i < (encFs l).length) : (encFs l)[i] = encF (l[i]'(by simpa using h)) := by simp [encFs]
@[simp] theorem encDs_nil : encDs [] = [] := rfl
@[simp] theorem encDs_cons (f : Dcl) (l : List Dcl) : encDs (f :: l) = encD f :: encDs l := rfl
@[simp] theorem encDs_len (l : List Dcl) : (encDs l).length = l.length := by simp [encDs]
@[simp] theorem encDs_app (l m : List Dcl) : encDs l ++ encDs m = encDs (l ++ m) := by simp [encDs]
@[simp] theorem encDs_getE (l : List Dcl) (i : Nat) (h : i < (encDs l).length) : (encDs l)[i] = encD (l[i]'(by simpa using h)) := by simp [encDs]
/-- A field's, a declaration's cells. -/
abbrev fcells (f : Fld) : List AV := [.d (.s f.name), .d (.i .i64 f.ty.kind), .d (.s f.ty.name), .d (.i .i64 f.ty.index), .d (.sl (encs f.ty.args))]
abbrev dcells (d : Dcl) : List AV := [.d (.s d.name), .d (.i .i64 d.arity), .d (.i .i64 d.super.kind), .d (.s d.super.name), .d (.i .i64 d.super.index), .d (.sl (encs d.super.args)), .d (.b d.conc), .d (.sl (encFs d.fields))]
abbrev tcells (t : Ty) : List AV := [.d (.i .i64 t.kind), .d (.s t.name), .d (.i .i64 t.index), .d (.sl (encs t.args))]
@[simp] theorem vElt_f (f : Fld) : vElt 5 (some (encF f)) = some (.pe (fcells f) 0) := rfl
@[simp] theorem vElt_dc (d : Dcl) : vElt 8 (some (encD d)) = some (.pe (dcells d) 0) := rfl
@[simp] theorem cellsD_f (f : Fld) : cellsD (encF f) = [.s f.name, .i .i64 f.ty.kind, .s f.ty.name, .i .i64 f.ty.index, .sl (encs f.ty.args)] := rfl
@[simp] theorem cellsD_dc (d : Dcl) : cellsD (encD d) = [.s d.name, .i .i64 d.arity, .i .i64 d.super.kind, .s d.super.name, .i .i64 d.super.index, .sl (encs d.super.args), .b d.conc, .sl (encFs d.fields)] := rfl
@[simp] theorem cellsV_f (f : Fld) : cellsV (.d (encF f)) = some (fcells f) := rfl
@[simp] theorem cellsV_dc (d : Dcl) : cellsV (.d (encD d)) = some (dcells d) := rfl
@[simp] theorem headSz_dc (l : List Dcl) : headSz (encDs l) 8 = true := by cases l <;> simp [headSz]
@[simp] theorem headSz_f (l : List Fld) : headSz (encFs l) 5 = true := by cases l <;> simp [headSz]
@[simp] theorem toD_dc (d : Dcl) (h : Heap) : toD (.ag (dcells d)) h = some (encD d, h) := rfl
@[simp] theorem toD_f (f : Fld) (h : Heap) : toD (.ag (fcells f)) h = some (encF f, h) := rfl
theorem toD_t (t : Ty) (h : Heap) : toD (.ag (tcells t)) h = some (enc t, h) := by simp
@[simp] theorem outsD_ag (l r : List AV) (h : Heap) : outsD (.ag l :: r) h = (match toD (.ag l) h with | some (x, h) => (match outsD r h with | some (l, h) => some (.d x :: l, h) | none => none) | none => none) := by
  simp only [outsD, outD]
  cases toD (.ag l) h with
  | none => rfl
  | some p => obtain ⟨x, h'⟩ := p; dsimp only; cases outsD r h' <;> rfl
/-- A slice that was lent or frozen. -/
def LS (v : AV) (l : List D) : Prop := v = .bs l ∨ v = .d (.sl l)
@[simp] theorem cellsV_bs (l : List D) : cellsV (.bs l) = some [.bs l] := rfl
theorem LS.len {v : AV} {l : List D} (h : LS v l) : vLen false v = some (.d (.i .i64 (l.length : Int))) := by rcases h with rfl | rfl <;> rfl
theorem LS.idx {v : AV} {l : List D} (h : LS v l) (s i : Nat) (hp : Heap) : vIdxa s v (some i) hp = vElt s l[i]? := by rcases h with rfl | rfl <;> rfl
@[simp] theorem vNil_pe (l : List AV) (o : Nat) : vNil (.pe l o) = some (.pe l o) := rfl
@[simp] theorem vNil_p (a o : Nat) : vNil (.p a o) = some (.p a o) := rfl
@[simp] theorem vExt_tu (i : Nat) (l : List AV) : vExt i (.tu l) = l[i]? := rfl
section
variable {F : Nat → Option CFun}
/-- A function's results, of values that bear no names. -/
structure Rsv (F : Nat → Option CFun) (g : Nat) (as : List AV) (rs : List AV) : Prop where
  fact : Fact F g as (rs.map .v)
  bor : ∀ cf, F g = some cf → cf.bor = false
theorem Res.rsv {g : Nat} {as : List D} {rs : List AV} (h : Res F g as rs) : Rsv F g (as.map .d) rs := ⟨h.fact, h.bor⟩
theorem cw_rsv {g : Nat} {args as : List AV} {rs : List AV} {h h' : Heap} {n : Nat} {Q : AV → Heap → Nat → Prop} (hA : Rsv F g as rs) (ha : argsD false args h = some (as, h')) (hq : Q (tup rs) h' n) : Cw F g args h n Q := by
  obtain ⟨K, hK⟩ := hA.fact
  obtain ⟨cf, hF, hp⟩ := runP_some hK
  exact cl_fact ⟨K, hK⟩ hF hp (by rw [hA.bor cf hF]; exact ha) hq
theorem rsv_of {g : Nat} {cf : CFun} {as : List AV} {rs : List AV} (hF : F g = some cf) (hp : cf.pure = true) (hb : cf.bor = false) (ho : cf.own = false) (hw : Wp F cf.body ⟨initE 0 as .lf, .lf, 0⟩ (fin cf.results rs)) : Rsv F g as rs := by
  refine ⟨fact_of_wp hF hp (hw.mono fun o h => ?_), fun cf' h => by rw [hF] at h; cases h; exact hb⟩
  have key : ∀ s : St, (∃ l, resVs s.e cf.results s.h = some l ∧ ∃ h', outsD l s.h = some (rs, h')) → prsOf cf s = some (rs.map .v) := fun s ⟨l, h1, h', h2⟩ => by
    simp only [prsOf, h1, ho, h2]
  cases o with
  | nor s => exact key s h
  | rt s => exact key s h
  | _ => exact h.elim
@[simp] theorem argsD_nil (h : Heap) : argsD false [] h = some ([], h) := rfl
theorem argsD_d (x : D) (l : List AV) (h : Heap) : argsD false (.d x :: l) h = (match argsD false l h with | some (l, h) => some (.d x :: l, h) | none => none) := by
  simp only [argsD, argD, toD_d]
  cases argsD false l h <;> rfl
theorem argsD_t (v : AV) (x : D) (l : List AV) (h : Heap) (hv : toD v h = some (x, h)) : argsD false (v :: l) h = (match argsD false l h with | some (l, h) => some (.d x :: l, h) | none => none) := by
  simp only [argsD, argD, hv]
  cases argsD false l h <;> rfl
theorem toB_d (h : Heap) (k : Nat) (x : D) : toB h k (.d x) = some (.d x) := by cases k <;> rfl
theorem toB_bs (h : Heap) (k : Nat) (l : List D) : toB h k (.bs l) = some (.bs l) := by cases k <;> rfl
/-- A lent pointer is lent on. -/
theorem argsD_pe (cs : List AV) (o : Nat) (l : List AV) (h : Heap) : argsD false (.pe cs o :: l) h = (match argsD false l h with | some (l, h) => some (.pe cs o :: l, h) | none => none) := by
  simp only [argsD, argD, toD, cellD, toB, Option.map_some]
  cases argsD false l h <;> rfl
end
end Tm
/- Calls that work on the caller's memory. No statement of the seat is proved here. -/
set_option linter.unusedVariables false
set_option linter.unusedSimpArgs false
namespace Tm
open Go
section
variable {F : Nat → Option CFun}
/-- The end of a function that works on the caller's memory. -/
def finI (R : List (Opd × Option (Option Nat))) (Q : AV → Heap → Nat → Prop) : Out → Prop
  | .nor s => ∃ l, resVs s.e R s.h = some l ∧ Q (tup l) s.h s.n
  | .rt s => ∃ l, resVs s.e R s.h = some l ∧ Q (tup l) s.h s.n
  | _ => False
/-- The results are there. -/
def gotI (r : Option (List AV)) (h : Heap) (n : Nat) (Q : AV → Heap → Nat → Prop) : Prop := ∃ l, r = some l ∧ Q (tup l) h n
@[simp] theorem gotI_some {l : List AV} {h : Heap} {n : Nat} {Q : AV → Heap → Nat → Prop} : gotI (some l) h n Q ↔ Q (tup l) h n := by
  unfold gotI
  exact ⟨fun ⟨l', h1, h2⟩ => by cases h1; exact h2, fun h => ⟨l, rfl, h⟩⟩
@[simp] theorem finI_nor {R : List (Opd × Option (Option Nat))} {Q : AV → Heap → Nat → Prop} {s : St} : finI R Q (.nor s) ↔ gotI (resVs s.e R s.h) s.h s.n Q := Iff.rfl
@[simp] theorem finI_rt {R : List (Opd × Option (Option Nat))} {Q : AV → Heap → Nat → Prop} {s : St} : finI R Q (.rt s) ↔ gotI (resVs s.e R s.h) s.h s.n Q := Iff.rfl
@[simp] theorem finI_ex {R : List (Opd × Option (Option Nat))} {Q : AV → Heap → Nat → Prop} {i : Nat} {s : St} : finI R Q (.ex i s) ↔ False := Iff.rfl
theorem cw_imp {g : Nat} {cf : CFun} {args : List AV} {h : Heap} {n : Nat} {Q : AV → Heap → Nat → Prop} (hF : F g = some cf) (hp : cf.pure = false) (hb : cf.bor = false) (ho : cf.own = false) (hz : cf.frz = false) (hw : Wp F cf.body ⟨initE 0 args .lf, h, n⟩ (finI cf.results Q)) : Cw F g args h n Q := by
  obtain ⟨K, o, h1, h2, h3⟩ := hw
  have har : arOK cf args = true := by simp [arOK, hb, ho]
  have key : ∀ s : St, (∃ l, resVs s.e cf.results s.h = some l ∧ Q (tup l) s.h s.n) → o = .nor s ∨ o = .rt s → Cw F g args h n Q := by
    rintro s ⟨l, e1, e2⟩ hs
    refine ⟨K, tup l, s.h, s.n, ?_, e2⟩
    unfold callA
    simp only [hF, hp, har]
    rcases hs with rfl | rfl <;> simp only [h1, leaveI, e1, hz]
  cases o with
  | nor s => exact key s h3 (.inl rfl)
  | rt s => exact key s h3 (.inr rfl)
  | _ => exact h3.elim
/-- The same where the results are frozen. -/
def finZ (R : List (Opd × Option (Option Nat))) (Q : AV → Heap → Nat → Prop) : Out → Prop
  | .nor s => ∃ l, resVs s.e R s.h = some l ∧ ∃ rs h', outsD l s.h = some (rs, h') ∧ Q (tup rs) h' s.n
  | .rt s => ∃ l, resVs s.e R s.h = some l ∧ ∃ rs h', outsD l s.h = some (rs, h') ∧ Q (tup rs) h' s.n
  | _ => False
theorem cw_impZ {g : Nat} {cf : CFun} {args : List AV} {h : Heap} {n : Nat} {Q : AV → Heap → Nat → Prop} (hF : F g = some cf) (hp : cf.pure = false) (hb : cf.bor = false) (ho : cf.own = false) (hz : cf.frz = true) (hw : Wp F cf.body ⟨initE 0 args .lf, h, n⟩ (finZ cf.results Q)) : Cw F g args h n Q := by
  obtain ⟨K, o, h1, h2, h3⟩ := hw
  have har : arOK cf args = true := by simp [arOK, hb, ho]
  have key : ∀ s : St, (∃ l, resVs s.e cf.results s.h = some l ∧ ∃ rs h', outsD l s.h = some (rs, h') ∧ Q (tup rs) h' s.n) → o = .nor s ∨ o = .rt s → Cw F g args h n Q := by
    rintro s ⟨l, e1, rs, h', e2, e3⟩ hs
    refine ⟨K, tup rs, h', s.n, ?_, e3⟩
    unfold callA
    simp only [hF, hp, har]
    rcases hs with rfl | rfl <;> simp only [h1, leaveI, e1, hz, e2]
  cases o with
  | nor s => exact key s h3 (.inl rfl)
  | rt s => exact key s h3 (.inr rfl)
  | _ => exact h3.elim
def kontc (F : Nat → Option CFun) (n0 : Nat) (chk : List (Nat × Option Nat × Option (Nat × Bool) × COp)) (ap : Bool) (l : List (Nat × COper)) (e : Env) (d : Option Nat) (Q : Env → Heap → Nat → Prop) (v : AV) (h : Heap) (n : Nat) : Prop := seen n0 true chk ap e d n v h = true ∧ Wo F n0 l (putE e d v) h n Q
@[simp] theorem kontc_eq {n0 : Nat} {chk : List (Nat × Option Nat × Option (Nat × Bool) × COp)} {ap : Bool} {l : List (Nat × COper)} {e : Env} {d : Option Nat} {Q : Env → Heap → Nat → Prop} {v : AV} {h : Heap} {n : Nat} : kontc F n0 chk ap l e d Q v h n ↔ seen n0 true chk ap e d n v h = true ∧ Wo F n0 l (putE e d v) h n Q := Iff.rfl
/-- A call behind which earlier operations are looked at again. -/
@[simp] theorem callc_iff {n0 i g : Nat} {d : Option Nat} {args : List Opd} {q : Nat × Option Nat × Option (Nat × Bool) × COp} {chk : List (Nat × Option Nat × Option (Nat × Bool) × COp)} {l : List (Nat × COper)} {e : Env} {h : Heap} {n : Nat} {Q : Env → Heap → Nat → Prop} :
    Wo F n0 ((i, ⟨d, none, .call g args, q :: chk, none⟩) :: l) e h n Q ↔ Cw F g (evs e args) h n (kontc F n0 (q :: chk) true l e d Q) := by
  constructor
  · rintro ⟨K, s', h1, h2⟩
    simp only [evOps, wants, doOp] at h1
    split at h1
    · rename_i v h' n' hc
      split at h1
      · rename_i hs
        exact ⟨K, v, h', n', hc, hs, K, s', h1, h2⟩
      · cases h1
    · cases h1
  · rintro ⟨K, v, h', n', h1, hs, J, s', h2, h3⟩
    refine ⟨max K J, s', ?_, h3⟩
    have hd : doOp (callA F (ev F (max K J))) (.call g args) ⟨e, h, n⟩ (n0 + i) = some (v, h', n') := callA_mono (ev_mono (Nat.le_max_left _ _)) _ _ _ _ _ h1
    exact (evOps_step (o := ⟨d, none, .call g args, q :: chk, none⟩) (v := v) (h' := h') (n' := n') rfl hd hs).trans (evOps_mono (callA_mono (ev_mono (Nat.le_max_right _ _))) h2)
end
end Tm
/- A call with one integer. No statement of the seat is proved here. -/
set_option linter.unusedVariables false
set_option linter.unusedSimpArgs false
namespace Tm
open Go
section
variable {P : Program} {G : Nat → Option AV} {F : Nat → Option CFun}
/-- A function of one integer that answers true. -/
theorem call_true1 (hall : ∀ k, CallOK P G (callA F (ev F k))) {g : Nat} {x : Int} (hf : Res F g [.i .i64 x] [.d (.b true)]) {W : World} (hG : GOk G (oldMem W)) :
    Calls P g #[.int .i64 x] W fun e W' => e = .returned (.bool true) ∧ RowKit.Below W.heap.size W W' := by
  obtain ⟨K, hK⟩ := hf.fact
  obtain ⟨cf, hF, hp⟩ := runP_some hK
  have hc : callA F (ev F K) g [.d (.i .i64 x)] .lf 0 = some (.d (.b true), .lf, 0) := by
    rw [callA_run hF hp (args := [.d (.i .i64 x)]) (as := [.d (.i .i64 x)]) (h := .lf) (h2 := .lf) (n := 0) (by rw [hf.bor cf hF]; rfl) hK]
    rfl
  refine Calls.mono ((hall K g [.d (.i .i64 x)] .lf 0 _ _ _ hc).2 (fun _ => none) (oldMem W) [.int .i64 x] hG (old_RH W) (fun _ _ => rfl) ⟨_, _, rfl, RV.mkInt _ _, rfl⟩) fun e W' he => ?_
  cases e with
  | returned u =>
    obtain ⟨M', I', rfl, hx, _, _, _, _, hv⟩ := he
    exact ⟨by rw [hv.bool], below_ext hx⟩
  | _ => exact he.elim
end
end Tm
