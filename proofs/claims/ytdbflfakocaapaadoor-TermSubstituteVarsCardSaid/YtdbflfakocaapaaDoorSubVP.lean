/- Plain: how substitution and instantiation turn the free variables of a term whose variables have no arguments. -/
import Derived.Test.YtdbflfakocaapaaDoorGenP
import Derived.Test.YtdbflfakocaapaaDoorSub2
namespace Go.Proofs.YtdbflfakocaapaaDoor

theorem fvs_of_closed {b : Ty} (hb : b.closed 0 = true) {d : Int} (hd : 0 ≤ d) : b.fvs d = [] := (Ty.closed_fvs b d).1 (Ty.closed_mono b 0 d hd hb)
theorem fSub_at {b : Ty} {ix d : Int} (h : ix = d) : fSub b ix d = .inl b := by simp [fSub, h]
theorem fSub_gt {b : Ty} {ix d : Int} (h : d < ix) : fSub b ix d = .inr (ix - 1) := by unfold fSub; rw [if_neg (by omega), if_pos h]
theorem fSub_lt {b : Ty} {ix d : Int} (h : ix < d) : fSub b ix d = .inr ix := by unfold fSub; rw [if_neg (by omega), if_neg (by omega)]
def dec1 (l : List Int) : List Int := (l.filter fun x => decide (0 < x)).map (· - 1)
theorem dec1_append (l m : List Int) : dec1 (l ++ m) = dec1 l ++ dec1 m := by simp [dec1]
mutual
theorem sub_fvs (b : Ty) (hb : b.closed 0 = true) : ∀ (t : Ty) (d : Int), t.vl → 0 ≤ d → (t.repl (fSub b) d).fvs d = dec1 (t.fvs d)
  | ⟨k, nm, ix, args⟩, d, hv, hd => by
    unfold Ty.vl at hv
    by_cases hk : k = 5
    · subst hk
      obtain rfl : args = [] := hv.1 rfl
      by_cases h1 : ix = d
      · rw [Ty.repl, if_pos rfl, fSub_at h1]
        simp only
        rw [fvs_of_closed hb hd]
        simp [Ty.fvs, Ty.fvss, dec1, h1]
      · by_cases h2 : d < ix
        · have h3 : d ≤ ix - 1 := by omega
          have h4 : d ≤ ix := by omega
          rw [Ty.repl, if_pos rfl, fSub_gt h2]
          simp [Ty.repls, Ty.fvs, Ty.fvss, dec1, h3, h4, h2]
          omega
        · have h4 : ¬ d ≤ ix := by omega
          rw [Ty.repl, if_pos rfl, fSub_lt (by omega)]
          simp [Ty.repls, Ty.fvs, Ty.fvss, dec1, h4]
    · rw [Ty.repl, if_neg hk]
      simp only [Ty.fvs]
      rw [if_neg (fun h => hk h.1), List.nil_append, List.nil_append]
      exact subs_fvs b hb k args 0 d hv.2 hd
theorem subs_fvs (b : Ty) (hb : b.closed 0 = true) (k : Int) : ∀ (ts : List Ty) (i : Nat) (d : Int), Ty.vls ts → 0 ≤ d → Ty.fvss k (Ty.repls (fSub b) k ts i d) i d = dec1 (Ty.fvss k ts i d)
  | [], _, _, _, _ => by simp [Ty.repls, Ty.fvss, dec1]
  | t :: ts, i, d, hv, hd => by
    unfold Ty.vls at hv
    rw [Ty.repls, Ty.fvss, Ty.fvss, dec1_append, sub_fvs b hb t _ hv.1 (by have := bindI_le k i; omega), subs_fvs b hb k ts (i + 1) d hv.2 hd]
 end
mutual
theorem sub_closed (b : Ty) : ∀ (t : Ty) (d : Int), t.closed d = true → t.repl (fSub b) d = t
  | ⟨k, nm, ix, args⟩, d, hc => by
    unfold Ty.closed at hc
    simp only [Bool.and_eq_true, Bool.not_eq_true', Bool.and_eq_false_iff, decide_eq_false_iff_not] at hc
    have hargs := subs_closed b k args 0 d hc.2
    by_cases hk : k = 5
    · have hlt : ¬ d ≤ ix := by
        rcases hc.1 with h | h
        · rw [hk] at h; simp at h
        · exact h
      rw [Ty.repl, if_pos hk, fSub_lt (by omega)]
      simp only
      rw [hargs]
    · rw [Ty.repl, if_neg hk]
      simp only
      rw [hargs]
theorem subs_closed (b : Ty) (k : Int) : ∀ (ts : List Ty) (i : Nat) (d : Int), Ty.closeds k ts i d = true → Ty.repls (fSub b) k ts i d = ts
  | [], _, _, _ => by simp [Ty.repls]
  | t :: ts, i, d, hc => by
    unfold Ty.closeds at hc
    simp only [Bool.and_eq_true] at hc
    rw [Ty.repls, sub_closed b t _ hc.1, subs_closed b k ts (i + 1) d hc.2]
 end
def sub3 (b t : Ty) (d : Int) : Ty := ((t.repl (fSub b) d).repl (fSub b) d).repl (fSub b) d
mutual
theorem inst_sub3 (b : Ty) (hb : b.closed 0 = true) : ∀ (t : Ty) (d : Int), t.vl → 0 ≤ d → t.closed (d + 3) = true → t.repl (fInst [b, b, b]) d = sub3 b t d
  | ⟨k, nm, ix, args⟩, d, hv, hd, hc => by
    unfold Ty.vl at hv
    have hbd := sub_closed b b d (Ty.closed_mono b 0 d hd hb)
    unfold Ty.closed at hc
    simp only [Bool.and_eq_true, Bool.not_eq_true', Bool.and_eq_false_iff, decide_eq_false_iff_not] at hc
    by_cases hk : k = 5
    · subst hk
      obtain rfl : args = [] := hv.1 rfl
      have hlt : ix < d + 3 := by
        rcases hc.1 with h | h
        · simp at h
        · omega
      have key : ∀ i : Int, (⟨5, nm, i, []⟩ : Ty).repl (fSub b) d = if i = d then b else if d < i then ⟨5, nm, i - 1, []⟩ else ⟨5, nm, i, []⟩ := by
        intro i
        by_cases h1 : i = d
        · rw [Ty.repl, if_pos rfl, fSub_at h1, if_pos h1]
        · by_cases h2 : d < i
          · rw [Ty.repl, if_pos rfl, fSub_gt h2, if_neg h1, if_pos h2]; simp [Ty.repls]
          · rw [Ty.repl, if_pos rfl, fSub_lt (by omega), if_neg h1, if_neg h2]; simp [Ty.repls]
      rw [Ty.repl, if_pos rfl]
      unfold fInst sub3
      by_cases h0 : d ≤ ix
      · rw [if_pos h0]
        have hcs : ix = d ∨ ix = d + 1 ∨ ix = d + 2 := by omega
        rcases hcs with rfl | rfl | rfl
        · have e : (ix - ix).toNat = 0 := by omega
          rw [e, key, if_pos rfl, hbd, hbd]
          simp
        · have e : (d + 1 - d).toNat = 1 := by omega
          rw [e, key, if_neg (by omega), if_pos (by omega), key, if_pos (by omega), hbd]
          simp
        · have e : (d + 2 - d).toNat = 2 := by omega
          rw [e, key, if_neg (by omega), if_pos (by omega), key, if_neg (by omega), if_pos (by omega), key, if_pos (by omega)]
          simp
      · rw [if_neg h0, key, if_neg (by omega), if_neg (by omega), key, if_neg (by omega), if_neg (by omega), key, if_neg (by omega), if_neg (by omega)]
        simp [Ty.repls]
    · have ha := inst_subs3 b hb k args 0 d hv.2 hd hc.2
      unfold sub3
      rw [Ty.repl, if_neg hk, Ty.repl, if_neg hk]
      simp only
      rw [Ty.repl, if_neg hk]
      simp only
      rw [Ty.repl, if_neg hk]
      simp only
      rw [ha]
theorem inst_subs3 (b : Ty) (hb : b.closed 0 = true) (k : Int) : ∀ (ts : List Ty) (i : Nat) (d : Int), Ty.vls ts → 0 ≤ d → Ty.closeds k ts i (d + 3) = true → Ty.repls (fInst [b, b, b]) k ts i d = Ty.repls (fSub b) k (Ty.repls (fSub b) k (Ty.repls (fSub b) k ts i d) i d) i d
  | [], _, _, _, _, _ => by simp [Ty.repls]
  | t :: ts, i, d, hv, hd, hc => by
    unfold Ty.vls at hv
    unfold Ty.closeds at hc
    simp only [Bool.and_eq_true] at hc
    have hbi := bindI_le k i
    have e : d + 3 + bindI k i = d + bindI k i + 3 := by omega
    rw [e] at hc
    have h1 := inst_sub3 b hb t (d + bindI k i) hv.1 (by omega) hc.1
    unfold sub3 at h1
    rw [Ty.repls, Ty.repls, Ty.repls, Ty.repls, h1, inst_subs3 b hb k ts (i + 1) d hv.2 hd hc.2]
 end
mutual
theorem inst_fvs (b : Ty) (hb : b.closed 0 = true) : ∀ (t : Ty) (d : Int), t.vl → 0 ≤ d → t.closed (d + 3) = true → (t.repl (fInst [b, b, b]) d).fvs d = []
  | ⟨k, nm, ix, args⟩, d, hv, hd, hc => by
    unfold Ty.vl at hv
    unfold Ty.closed at hc
    simp only [Bool.and_eq_true, Bool.not_eq_true', Bool.and_eq_false_iff, decide_eq_false_iff_not] at hc
    by_cases hk : k = 5
    · subst hk
      obtain rfl : args = [] := hv.1 rfl
      have hlt : ix < d + 3 := by
        rcases hc.1 with h | h
        · simp at h
        · omega
      rw [Ty.repl, if_pos rfl]
      unfold fInst
      by_cases h0 : d ≤ ix
      · rw [if_pos h0]
        have hcs : ix = d ∨ ix = d + 1 ∨ ix = d + 2 := by omega
        rcases hcs with rfl | rfl | rfl
        · have e : (ix - ix).toNat = 0 := by omega
          rw [e]; exact fvs_of_closed hb hd
        · have e : (d + 1 - d).toNat = 1 := by omega
          rw [e]; exact fvs_of_closed hb hd
        · have e : (d + 2 - d).toNat = 2 := by omega
          rw [e]; exact fvs_of_closed hb hd
      · rw [if_neg h0]
        simp only [Ty.repls, Ty.fvs, Ty.fvss, List.append_nil]
        rw [if_neg (by omega)]
    · rw [Ty.repl, if_neg hk]
      simp only [Ty.fvs]
      rw [if_neg (fun h => hk h.1), List.nil_append]
      exact insts_fvs b hb k args 0 d hv.2 hd hc.2
theorem insts_fvs (b : Ty) (hb : b.closed 0 = true) (k : Int) : ∀ (ts : List Ty) (i : Nat) (d : Int), Ty.vls ts → 0 ≤ d → Ty.closeds k ts i (d + 3) = true → Ty.fvss k (Ty.repls (fInst [b, b, b]) k ts i d) i d = []
  | [], _, _, _, _, _ => by simp [Ty.repls, Ty.fvss]
  | t :: ts, i, d, hv, hd, hc => by
    unfold Ty.vls at hv
    unfold Ty.closeds at hc
    simp only [Bool.and_eq_true] at hc
    have hbi := bindI_le k i
    have e : d + 3 + bindI k i = d + bindI k i + 3 := by omega
    rw [e] at hc
    rw [Ty.repls, Ty.fvss, inst_fvs b hb t _ hv.1 (by omega) hc.1, insts_fvs b hb k ts (i + 1) d hv.2 hd hc.2]
    rfl
 end
/-- Two sorted lists with the same elements are the same. -/
theorem sorted_ext : ∀ (l m : List Int), l.Pairwise (· < ·) → m.Pairwise (· < ·) → (∀ x, x ∈ l ↔ x ∈ m) → l = m
  | [], [], _, _, _ => rfl
  | [], y :: m, _, _, h => by have := (h y).2 (by simp); cases this
  | x :: l, [], _, _, h => by have := (h x).1 (by simp); cases this
  | x :: l, y :: m, hl, hm, h => by
    rw [List.pairwise_cons] at hl hm
    have hxy : x = y := by
      rcases List.mem_cons.1 ((h x).1 (by simp)) with e | e
      · exact e
      · rcases List.mem_cons.1 ((h y).2 (by simp)) with e' | e'
        · exact e'.symm
        · have h1 := hm.1 x e
          have h2 := hl.1 y e'
          omega
    subst hxy
    rw [sorted_ext l m hl.2 hm.2 fun z => ?_]
    constructor
    · intro hz
      rcases List.mem_cons.1 ((h z).1 (by simp [hz])) with e | e
      · subst e; have := hl.1 z hz; omega
      · exact e
    · intro hz
      rcases List.mem_cons.1 ((h z).2 (by simp [hz])) with e | e
      · subst e; have := hm.1 z hz; omega
      · exact e
/-- What the law's loop computes of the free variables is what FreeVars gives after Substitute. -/
theorem after_want (b t : Ty) (hb : b.closed 0 = true) (hv : t.vl) : insAll [] ((t.repl (fSub b) 0).fvs 0) = dec1 (insAll [] (t.fvs 0)) := by
  rw [sub_fvs b hb t 0 hv (Int.le_refl _)]
  have hs := insAll_sorted [] (t.fvs 0) .nil
  refine sorted_ext _ _ (insAll_sorted [] _ .nil) ?_ fun x => ?_
  · unfold dec1
    rw [List.pairwise_map]
    exact (hs.filter _).imp fun h => by omega
  · rw [insAll_mem]
    simp only [dec1, List.mem_map, List.mem_filter, insAll_mem]
    simp
end Go.Proofs.YtdbflfakocaapaaDoor
