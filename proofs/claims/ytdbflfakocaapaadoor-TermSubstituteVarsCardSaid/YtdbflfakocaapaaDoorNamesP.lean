/- Plain: the order of byte strings; the names of a term. -/
import Derived.Test.YtdbflfakocaapaaDoorSets
import Derived.Test.YtdbflfakocaapaaDoorStrs
namespace Go.Proofs.YtdbflfakocaapaaDoor

theorem bl_irrefl : ∀ a : List UInt8, Op.bytesLess a a = false
  | [] => rfl
  | x :: a => by simp [Op.bytesLess, bl_irrefl a]
theorem bl_trans : ∀ a b c : List UInt8, Op.bytesLess a b = true → Op.bytesLess b c = true → Op.bytesLess a c = true
  | _, [], _, h, _ => by simp [Op.bytesLess] at h
  | _, _ :: _, [], _, h => by simp [Op.bytesLess] at h
  | [], _ :: _, _ :: _, _, _ => rfl
  | x :: a, y :: b, z :: c, h1, h2 => by
    simp only [Op.bytesLess, Bool.or_eq_true, Bool.and_eq_true, decide_eq_true_eq, beq_iff_eq] at *
    rcases h1 with h1 | ⟨rfl, h1⟩
    · rcases h2 with h2 | ⟨rfl, h2⟩
      · exact .inl (UInt8.lt_trans h1 h2)
      · exact .inl h1
    · rcases h2 with h2 | ⟨rfl, h2⟩
      · exact .inl h2
      · exact .inr ⟨rfl, bl_trans a b c h1 h2⟩
theorem bl_total : ∀ a b : List UInt8, Op.bytesLess a b = true ∨ a = b ∨ Op.bytesLess b a = true
  | [], [] => .inr (.inl rfl)
  | [], _ :: _ => .inl rfl
  | _ :: _, [] => .inr (.inr rfl)
  | x :: a, y :: b => by
    simp only [Op.bytesLess, Bool.or_eq_true, Bool.and_eq_true, decide_eq_true_eq, beq_iff_eq]
    rcases UInt8.lt_or_lt_of_ne (a := x) (b := y) |> fun h => (Classical.em (x = y)).imp id h with rfl | h | h
    · rcases bl_total a b with h | rfl | h
      · exact .inl (.inr ⟨rfl, h⟩)
      · exact .inr (.inl rfl)
      · exact .inr (.inr (.inr ⟨rfl, h⟩))
    · exact .inl (.inl h)
    · exact .inr (.inr (.inl h))

theorem insS_mem (x : ByteArray) (y : ByteArray) : ∀ xs : List ByteArray, y ∈ insS x xs → y = x ∨ y ∈ xs
  | [], h => by simpa [insS] using h
  | z :: zs, h => by
    unfold insS at h
    split at h
    · rcases List.mem_cons.1 h with h | h
      · exact .inr (by simp [h])
      · rcases insS_mem x y zs h with h | h
        · exact .inl h
        · exact .inr (by simp [h])
    · split at h
      · exact .inr h
      · rcases List.mem_cons.1 h with h | h
        · exact .inl h
        · exact .inr h
theorem insS_sorted (x : ByteArray) : ∀ xs : List ByteArray, xs.Pairwise (fun a b => Op.bytesLess a.toList b.toList = true) → (insS x xs).Pairwise (fun a b => Op.bytesLess a.toList b.toList = true)
  | [], _ => by simp [insS]
  | z :: zs, h => by
    rw [List.pairwise_cons] at h
    unfold insS
    split
    · rename_i hz
      rw [List.pairwise_cons]
      refine ⟨fun y hy => ?_, insS_sorted x zs h.2⟩
      rcases insS_mem x y zs hy with rfl | hy
      · exact hz
      · exact h.1 y hy
    · split
      · rw [List.pairwise_cons]; exact h
      · rename_i h1 h2
        have hxz : Op.bytesLess x.toList z.toList = true := by
          rcases bl_total x.toList z.toList with h | h | h
          · exact h
          · exact absurd h.symm h2
          · exact absurd h h1
        rw [List.pairwise_cons]
        refine ⟨fun y hy => ?_, List.pairwise_cons.2 h⟩
        rcases List.mem_cons.1 hy with rfl | hy
        · exact hxz
        · exact bl_trans _ _ _ hxz (h.1 y hy)
def insAllS (l xs : List ByteArray) : List ByteArray := xs.foldl (fun l x => insS x l) l
theorem insAllS_append (l xs ys : List ByteArray) : insAllS l (xs ++ ys) = insAllS (insAllS l xs) ys := by simp [insAllS]
theorem insAllS_len (l xs : List ByteArray) : l.length ≤ (insAllS l xs).length ∧ (insAllS l xs).length ≤ l.length + xs.length := by
  induction xs generalizing l with
  | nil => simp [insAllS]
  | cons x xs ih =>
    have h1 := ih (insS x l)
    have h2 := insS_len x l
    simp only [insAllS, List.foldl_cons, List.length_cons] at h1 ⊢
    omega
mutual
def Ty.nms : Ty → List ByteArray
  | ⟨k, nm, _, args⟩ => (if k = 2 then [nm] else []) ++ Ty.nmss args
def Ty.nmss : List Ty → List ByteArray
  | [] => []
  | t :: ts => Ty.nms t ++ Ty.nmss ts
 end
theorem Ty.nms_eq (t : Ty) : t.nms = (if t.kind = 2 then [t.name] else []) ++ Ty.nmss t.args := by cases t; rw [Ty.nms]
theorem Ty.nmss_take (ts : List Ty) (j : Nat) (hj : j < ts.length) : Ty.nmss (ts.take (j + 1)) = Ty.nmss (ts.take j) ++ Ty.nms ts[j] := by
  induction ts generalizing j with
  | nil => simp at hj
  | cons t ts ih =>
    rcases j with _ | j
    · simp [Ty.nmss]
    · have := ih j (by simpa using hj)
      simp [Ty.nmss, this]
mutual
theorem Ty.nms_len : ∀ (t : Ty), t.nms.length ≤ t.size
  | ⟨k, _, ix, args⟩ => by
    have := Ty.nmss_len args
    rw [Ty.nms, Ty.size, List.length_append]
    split <;> simp <;> omega
theorem Ty.nmss_len : ∀ (ts : List Ty), (Ty.nmss ts).length ≤ Ty.sizes ts
  | [] => by simp [Ty.nmss]
  | t :: ts => by
    rw [Ty.nmss, Ty.sizes, List.length_append]
    have := Ty.nms_len t
    have := Ty.nmss_len ts
    omega
 end
def nmHead (k : Int) (nm : ByteArray) : List ByteArray := if k = 2 then [nm] else []
end Go.Proofs.YtdbflfakocaapaaDoor
