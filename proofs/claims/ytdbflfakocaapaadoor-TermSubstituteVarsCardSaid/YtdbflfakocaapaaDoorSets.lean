/- The program's sorted sets: add, at ints and at strings. -/
import Derived.Test.YtdbflfakocaapaaDoorIns
import Derived.Test.YtdbflfakocaapaaDoorFuncs
namespace Go.Proofs.YtdbflfakocaapaaDoor
open Go.RowKit

/-- One step of a set at block sb, whose elements were v and are now v': only its own blocks have changed. -/
structure SetStep (sb : Nat) (v : Value) (w w' : World) (v' : Value) : Prop where
  os : w'.os = w.os
  tape : w'.tape = w.tape
  output : w'.output = w.output
  size : w.heap.size ≤ w'.heap.size
  block : ∀ k, k < w.heap.size → k ≠ sb → some k ≠ v.ownBlock → w'.heap[k]? = w.heap[k]?
  row : v'.ownBlock = v.ownBlock ∨ ∃ k, v'.ownBlock = some k ∧ w.heap.size ≤ k
theorem SetStep.refl (sb : Nat) (v : Value) (w : World) : SetStep sb v w w v := ⟨rfl, rfl, rfl, Nat.le_refl _, fun _ _ _ _ => rfl, .inl rfl⟩
theorem SetStep.trans {sb : Nat} {v v' v'' : Value} {w w' w'' : World} (h : SetStep sb v w w' v') (k : SetStep sb v' w' w'' v'') : SetStep sb v w w'' v'' := by
  refine ⟨k.os.trans h.os, k.tape.trans h.tape, k.output.trans h.output, Nat.le_trans h.size k.size, fun i hi h1 h2 => ?_, ?_⟩
  · have h3 : some i ≠ v'.ownBlock := by
      rcases h.row with e | ⟨j, e, hj⟩
      · rw [e]; exact h2
      · rw [e]; intro e2; injection e2 with e2; omega
    exact (k.block i (Nat.lt_of_lt_of_le hi h.size) h1 h3).trans (h.block i hi h1 h2)
  · rcases k.row with e | ⟨j, e, hj⟩
    · rcases h.row with e2 | ⟨j, e2, hj⟩
      · exact .inl (e.trans e2)
      · exact .inr ⟨j, e.trans e2, hj⟩
    · exact .inr ⟨j, e, Nat.le_trans h.size hj⟩
theorem SetStep.of_below {sb : Nat} {v : Value} {w w' : World} (h : Below w.heap.size w w') : SetStep sb v w w' v := ⟨h.os, h.tape, h.output, h.size, fun k hk _ _ => h.block k hk, .inl rfl⟩
/-- What lies below the set's blocks is as it was. -/
theorem SetStep.below {sb base B : Nat} {v v' : Value} {w w' : World} (h : SetStep sb v w w' v') (h1 : B ≤ sb) (h2 : ∀ k, v.ownBlock = some k → base ≤ k) (hB : B ≤ base) (hs : B ≤ w.heap.size) : Below B w w' :=
  ⟨h.os, h.tape, h.output, h.size, fun k hk => h.block k (by omega) (by omega) (fun e => by have := h2 k e.symm; omega)⟩
theorem own_setCell_far {w : World} {base size n : Nat} {e : TypeId} {v : Value} {xs : List Value} (h : w.ownsRow base e size v n xs) (a : Addr) (u : Value) (hne : v.ownBlock ≠ some a.block) : (w.setCell a u).ownsRow base e size v n xs := by
  refine ⟨h.1, ?_⟩
  rcases h.2 with h1 | ⟨g, cap, cur, hv, hg, hh, r⟩
  · exact .inl h1
  · refine .inr ⟨g, cap, cur, hv, hg, ?_, r⟩
    rw [Below.heap_setCell _ _ _ _ (fun e => hne (by rw [hv, ← e]; rfl))]
    exact hh

/-- The set at block sb holds xs; its blocks lie from base on. -/
structure SetI (w : World) (base sb : Nat) (xs : List Int) (v : Value) : Prop where
  blk : w.heap[sb]? = some (.cells #[v] 69 (0, 0))
  own : w.ownsRow base 3 1 v xs.length (ints xs)
  ge : base ≤ sb
  sorted : xs.Pairwise (· < ·)
theorem SetI.ne {w : World} {base sb : Nat} {xs : List Int} {v : Value} (h : SetI w base sb xs v) {b : Nat} {t : TypeId} {cs : Array Value} {f : Nat × Nat} (hb : w.heap[b]? = some (.cells cs t f)) (ht : t ≠ 3) (ht2 : t ≠ 69) : b ≠ sb ∧ some b ≠ v.ownBlock := by
  refine ⟨fun e => ?_, fun e => ?_⟩
  · subst e
    rw [h.blk] at hb
    simp only [Option.some.injEq, Obj.cells.injEq] at hb
    exact ht2 hb.2.1.symm
  · rcases h.own.2 with ⟨hv, _⟩ | ⟨g, cap, cur, hv, hg, hh, _⟩
    · rw [hv] at e; simp [Value.ownBlock] at e
    · rw [hv] at e
      simp only [Value.ownBlock, Option.some.injEq] at e
      subst e
      rw [hh] at hb
      simp only [Option.some.injEq, Obj.cells.injEq] at hb
      exact ht hb.2.1.symm
theorem SetI.step {w w' : World} {base sb : Nat} {xs : List Int} {v : Value} (h : SetI w base sb xs v) (hb : Below w.heap.size w w') : SetI w' base sb xs v := by
  have hlt : sb < w.heap.size := by
    rcases Nat.lt_or_ge sb w.heap.size with hl | hl
    · exact hl
    · have := h.blk; rw [Array.getElem?_eq_none hl] at this; cases this
  refine ⟨(hb.block sb hlt).trans h.blk, ?_, h.ge, h.sorted⟩
  refine ⟨h.own.1, ?_⟩
  rcases h.own.2 with h1 | ⟨g, cap, cur, hv, hg, hh, r⟩
  · exact .inl h1
  · have hlt : g < w.heap.size := by
      rcases Nat.lt_or_ge g w.heap.size with hl | hl
      · exact hl
      · rw [Array.getElem?_eq_none hl] at hh; cases hh
    exact .inr ⟨g, cap, cur, hv, hg, (hb.block g hlt).trans hh, r⟩
/-- A set after an operation that has made it xs. -/
def AddedSetI (base sb : Nat) (v : Value) (xs : List Int) (w : World) (e : Ending) (w' : World) : Prop := e = .returned (.tuple #[]) ∧ ∃ v', SetI w' base sb xs v' ∧ SetStep sb v w w' v'

/-- What BinarySearch is to find: the place, and whether the element is there. -/
def FoundSetI (xs : List Int) (x : Int) (w : World) (e : Ending) (w' : World) : Prop := ∃ (i : Nat) (b : Bool) (q : Nat), e = .returned (.tuple #[.int .i64 i, .bool b]) ∧ w' = w.drewN q ∧ i ≤ xs.length ∧ (b = true → ins x xs = xs) ∧ (b = false → ins x xs = xs.take i ++ x :: xs.drop i)
theorem c_searchI (xs : List Int) (x : Int) (v : Value) (w : World) (base : Nat) (hown : w.ownsRow base 3 1 v xs.length (ints xs)) (hs : xs.Pairwise (· < ·)) (hn : xs.length ≤ 2 ^ 30) :
    Calls Tryd.prog 92 #[v, .int .i64 x] w (FoundSetI xs x w) := by
  rcases hown.2 with ⟨rfl, h0⟩ | ⟨g, cap, cur, rfl, hg, hh, hnc, r⟩
  · obtain rfl : xs = [] := List.eq_nil_of_length_eq_zero h0
    refine (Any.slices_BinarySearch_int_empty Tryd.laysBsI none 0 x w).mono ?_
    rintro e w' ⟨rfl, rfl⟩
    exact ⟨0, false, 0, rfl, rfl, by simp, by simp, by simp [ins]⟩
  · refine (Any.slices_BinarySearch_int Tryd.laysBsI g 0 xs.length cap xs x w (Nat.le_refl _) (by omega) (fun j hj => ?_) ?_).mono ?_
    · have := hown.cells (g := g) rfl j (.int .i64 xs[j]) (by simp [ints, hj])
      simp only [Addr.add_lit] at this
      rw [this]
      simp [hj]
    · rw [List.take_of_length_le (Nat.le_refl _)]
      exact hs.imp (fun h => Int.le_of_lt h)
    · rintro e w' ⟨rfl, q, rfl⟩
      rw [List.take_of_length_le (Nat.le_refl _)]
      refine ⟨_, _, q, rfl, rfl, List.countP_le_length, fun h => ins_mem_self x xs hs (by simpa using h), fun h => ins_split x xs hs (by simpa using h)⟩

set_option maxHeartbeats 1000000 in
theorem c_addI (base sb : Nat) (xs : List Int) (x : Int) (v : Value) (w : World) (h : SetI w base sb xs v) (hn : xs.length ≤ 2 ^ 29) (hbase : base ≤ w.heap.size) (hsort : (ins x xs).Pairwise (· < ·)) :
    Calls Tryd.prog 76 #[.pointer (some ⟨sb, 0, none⟩), .int .i64 x] w (AddedSetI base sb v (ins x xs) w) := by
  have HS := Lib.hid (c_searchI xs x v w base h.own h.sorted (by omega))
  have hc : w.cell? ⟨sb, 0, none⟩ = some v := by rw [cell_of_row w sb 0 _ _ _ h.blk]; rfl
  have hf : w.frozen? ⟨sb, 0, none⟩ = false := by simp [World.frozen?, h.blk]
  have hlt : sb < w.heap.size := by
    rcases Nat.lt_or_ge sb w.heap.size with hl | hl
    · exact hl
    · have := h.blk; rw [Array.getElem?_eq_none hl] at this; cases this
  obtain ⟨A, c, rfl⟩ : ∃ A c, v = .slice A xs.length c := by
    rcases h.own.2 with ⟨rfl, h0⟩ | ⟨g, cap, cur, rfl, _⟩
    · exact ⟨none, 0, by rw [h0]⟩
    · exact ⟨_, _, rfl⟩
  have HH := Lib.hid h
  clear h
  have Hsort := Lib.hid hsort; clear hsort
  generalize hl : xs.length = n at *
  have Hn := Lib.hid hl; clear hl
  go_enter Tryd.func76, Tryd.ntmps76
  go_wp2_with fail
  refine HS.out.mono ?_
  rintro e w1 ⟨i, b, q, rfl, rfl, hi, hb1, hb2⟩
  rw [Hn.out] at hi
  cases b
  rotate_left
  · have HZ := Lib.hid (hb1 rfl)
    clear hb1 hb2
    go_wp2
    go_returns
    exact ⟨rfl, _, by rw [HZ.out]; exact ⟨HH.out.blk, HH.out.own, HH.out.ge, HH.out.sorted⟩, ⟨rfl, rfl, rfl, Nat.le_refl _, fun _ _ _ _ => rfl, .inl rfl⟩⟩
  · have HZ := Lib.hid (hb2 rfl)
    clear hb1 hb2
    have hbW : Hid (∀ o : Obj, Below w.heap.size w ((w.drewN q).alloc o)) := Lib.hid (fun o => Below.alloc (a := w) (w := w.drewN q) (B := w.heap.size) ⟨rfl, rfl, rfl, Nat.le_refl _, fun _ _ => rfl⟩ (Nat.le_refl _) o)
    have hown : Hid (∀ k, (Value.slice A n c).ownBlock = some k → k < w.heap.size ∧ k ≠ sb) := Lib.hid (fun k hk => by
      rcases HH.out.own.2 with ⟨hv, _⟩ | ⟨g, cap, cur, hv, hg, hh, _⟩
      · rw [hv] at hk; simp [Value.ownBlock] at hk
      · rw [hv] at hk
        simp only [Value.ownBlock, Option.some.injEq] at hk
        subst hk
        refine ⟨?_, fun e => ?_⟩
        · rcases Nat.lt_or_ge g w.heap.size with hl | hl
          · exact hl
          · rw [Array.getElem?_eq_none hl] at hh; cases hh
        · subst e
          have hb := HH.out.blk
          rw [hh] at hb
          simp at hb)
    have HOW : Hid (∀ o : Obj, ((w.drewN q).alloc o).ownsRow base 3 1 (.slice A n c) n (ints xs)) := Lib.hid (fun o => by have := (HH.out.step (hbW.out o)).own; rw [Hn.out] at this; exact this)
    go_wp2_with fail
    refine (c_InsertInts base n i w.heap.size (.slice A n c) (ints xs) (.int .i64 x) _ (HOW.out _) (ints_one xs) rfl hi (by omega) (by go_size) (blk_new (w.drewN q) _) (fun e => by have := (hown.out _ e).1; omega)).mono ?_
    rintro e w2 ⟨v2, rfl, hown2, hg2, hat2⟩
    have hs2 := hg2.size
    simp at hs2
    have hsb2 : w2.heap[sb]? = some (.cells #[.slice A n c] 69 (0, 0)) := by
      rw [hg2.block sb (by simp; omega) (fun e => (hown.out sb e.symm).2 rfl)]
      rw [Below.heap_alloc _ _ _ (by exact hlt)]
      exact HH.out.blk
    have hc2 : w2.cell? ⟨sb, 0, none⟩ = some (.slice A n c) := by rw [cell_of_row w2 sb 0 _ _ _ hsb2]; rfl
    have hf2 : w2.frozen? ⟨sb, 0, none⟩ = false := by simp [World.frozen?, hsb2]
    have hne2 : Hid (v2.ownBlock ≠ some sb) := Lib.hid (fun e => by
      rcases hat2 with h | h
      · rw [h] at e; exact (hown.out sb e).2 rfl
      · rw [h] at e; simp at e; omega)
    obtain ⟨A2, c2, rfl⟩ : ∃ A c, v2 = .slice A (n + 1) c := by
      rcases hown2.2 with ⟨_, h0⟩ | ⟨g, cap, cur, rfl, _⟩
      · omega
      · exact ⟨_, _, rfl⟩
    have HO2 := Lib.hid hown2
    have HG2 := Lib.hid hg2
    have HSB := Lib.hid hsb2
    have HAT := Lib.hid hat2
    clear hown2 hg2 hsb2 hat2
    go_wp2
    go_returns
    have hlen : (ins x xs).length = n + 1 := by rw [HZ.out]; simp [Hn.out]; omega
    have hency : (ints xs).take i ++ .int .i64 x :: (ints xs).drop i = ints (ins x xs) := by rw [HZ.out]; simp [ints]
    refine ⟨rfl, .slice A2 (n + 1) c2, ⟨?_, ?_, HH.out.ge, Hsort.out⟩, ⟨?_, ?_, ?_, ?_, ?_, ?_⟩⟩
    · simp [World.setCell, Array.getElem?_modify, HSB.out]
    · have := own_setCell_far HO2.out ⟨sb, 0, none⟩ (.slice A2 (n + 1) c2) hne2.out
      rw [hency] at this
      rw [hlen]
      exact this
    · exact HG2.out.os
    · exact HG2.out.tape
    · exact HG2.out.output
    · simp [World.setCell]; omega
    · intro k hk h1 h2
      rw [Below.heap_setCell _ _ _ _ h1, HG2.out.block k (by simp; omega) h2]
      exact Below.heap_alloc _ _ _ hk
    · rcases HAT.out with h | h
      · exact .inl h
      · exact .inr ⟨w.heap.size + 1, by simpa using h, by omega⟩

/-- The set at block sb holds xs; its blocks lie from base on. -/
structure SetS (w : World) (base sb : Nat) (xs : List ByteArray) (v : Value) : Prop where
  blk : w.heap[sb]? = some (.cells #[v] 74 (0, 0))
  own : w.ownsRow base 9 1 v xs.length (strs xs)
  ge : base ≤ sb
  sorted : xs.Pairwise (fun a b => Op.bytesLess a.toList b.toList = true)
theorem SetS.ne {w : World} {base sb : Nat} {xs : List ByteArray} {v : Value} (h : SetS w base sb xs v) {b : Nat} {t : TypeId} {cs : Array Value} {f : Nat × Nat} (hb : w.heap[b]? = some (.cells cs t f)) (ht : t ≠ 9) (ht2 : t ≠ 74) : b ≠ sb ∧ some b ≠ v.ownBlock := by
  refine ⟨fun e => ?_, fun e => ?_⟩
  · subst e
    rw [h.blk] at hb
    simp only [Option.some.injEq, Obj.cells.injEq] at hb
    exact ht2 hb.2.1.symm
  · rcases h.own.2 with ⟨hv, _⟩ | ⟨g, cap, cur, hv, hg, hh, _⟩
    · rw [hv] at e; simp [Value.ownBlock] at e
    · rw [hv] at e
      simp only [Value.ownBlock, Option.some.injEq] at e
      subst e
      rw [hh] at hb
      simp only [Option.some.injEq, Obj.cells.injEq] at hb
      exact ht hb.2.1.symm
theorem SetS.step {w w' : World} {base sb : Nat} {xs : List ByteArray} {v : Value} (h : SetS w base sb xs v) (hb : Below w.heap.size w w') : SetS w' base sb xs v := by
  have hlt : sb < w.heap.size := by
    rcases Nat.lt_or_ge sb w.heap.size with hl | hl
    · exact hl
    · have := h.blk; rw [Array.getElem?_eq_none hl] at this; cases this
  refine ⟨(hb.block sb hlt).trans h.blk, ?_, h.ge, h.sorted⟩
  refine ⟨h.own.1, ?_⟩
  rcases h.own.2 with h1 | ⟨g, cap, cur, hv, hg, hh, r⟩
  · exact .inl h1
  · have hlt : g < w.heap.size := by
      rcases Nat.lt_or_ge g w.heap.size with hl | hl
      · exact hl
      · rw [Array.getElem?_eq_none hl] at hh; cases hh
    exact .inr ⟨g, cap, cur, hv, hg, (hb.block g hlt).trans hh, r⟩
/-- A set after an operation that has made it xs. -/
def AddedSetS (base sb : Nat) (v : Value) (xs : List ByteArray) (w : World) (e : Ending) (w' : World) : Prop := e = .returned (.tuple #[]) ∧ ∃ v', SetS w' base sb xs v' ∧ SetStep sb v w w' v'

/-- What BinarySearch is to find: the place, and whether the element is there. -/
def FoundSetS (xs : List ByteArray) (x : ByteArray) (w : World) (e : Ending) (w' : World) : Prop := ∃ (i : Nat) (b : Bool) (q : Nat), e = .returned (.tuple #[.int .i64 i, .bool b]) ∧ w' = w.drewN q ∧ i ≤ xs.length ∧ (b = true → insS x xs = xs) ∧ (b = false → insS x xs = xs.take i ++ x :: xs.drop i)
theorem bytes_inj' {a b : ByteArray} (h : a.data.toList = b.data.toList) : a = b := by
  cases a; cases b
  simp only [ByteArray.mk.injEq]
  exact Array.toList_inj.1 h
theorem bytesLess_irrefl (a : List UInt8) : Op.bytesLess a a = false := by
  induction a with
  | nil => rfl
  | cons x xs ih => simp [Op.bytesLess, ih]
theorem bytesLess_trans (a b c : List UInt8) (h1 : Op.bytesLess a b = true) (h2 : Op.bytesLess b c = true) : Op.bytesLess a c = true := by
  induction a generalizing b c with
  | nil =>
    cases c with
    | nil => cases b <;> simp [Op.bytesLess] at h2
    | cons z zs => rfl
  | cons x xs ih =>
    cases b with
    | nil => simp [Op.bytesLess] at h1
    | cons y ys =>
      cases c with
      | nil => simp [Op.bytesLess] at h2
      | cons z zs =>
        simp only [Op.bytesLess] at h1 h2 ⊢
        by_cases hxy : x = y
        · subst hxy
          by_cases hyz : x = z
          · subst hyz
            simp at h1 h2 ⊢
            exact ih _ _ h1 h2
          · simp [hyz] at h2 ⊢
            simp at h1
            exact h2
        · by_cases hyz : y = z
          · subst hyz
            simp [hxy] at h1 ⊢
            exact h1
          · simp [hxy, hyz] at h1 h2
            have hlt : x < z := by
              rw [UInt8.lt_iff_toNat_lt] at h1 h2 ⊢
              omega
            simp [hlt]
theorem c_searchS (xs : List ByteArray) (x : ByteArray) (v : Value) (w : World) (base : Nat) (hown : w.ownsRow base 9 1 v xs.length (strs xs)) (hs : xs.Pairwise (fun a b => Op.bytesLess a.toList b.toList = true)) (hn : xs.length ≤ 2 ^ 30) :
    Calls Tryd.prog 94 #[v, .string x] w (FoundSetS xs x w) := by
  rcases hown.2 with ⟨rfl, h0⟩ | ⟨g, cap, cur, rfl, hg, hh, hnc, r⟩
  · obtain rfl : xs = [] := List.eq_nil_of_length_eq_zero h0
    refine (Any2.slices_BinarySearch_string_empty Tryd.laysBsS none 0 x w).mono ?_
    rintro e w' ⟨rfl, rfl⟩
    exact ⟨0, false, 0, rfl, rfl, by simp, by simp, by simp [insS]⟩
  · have hSx : ∀ (t : Nat) (h : t < xs.length), (if h : t < xs.length then xs[t] else x) = xs[t] := fun t h => by rw [dif_pos h]
    refine (Any2.slices_BinarySearch_string Tryd.laysBsS g 0 xs.length cap (fun t => if h : t < xs.length then xs[t] else x) x w (by omega) (fun j hj => ?_)).mono ?_
    · have := hown.cells (g := g) rfl j (.string xs[j]) (by simp [strs, hj])
      simp only [Addr.add_lit] at this
      rw [this]
      simp [hj]
    · rintro e w' ⟨rfl, q, rfl⟩
      obtain ⟨k, hk, hk1, hk2⟩ : ∃ k, k ≤ xs.length ∧ (∀ (i : Nat) (hi : i < xs.length), i < k → Op.bytesLess xs[i].toList x.toList = true) ∧ (∀ h : k < xs.length, ¬ Op.bytesLess xs[k].toList x.toList = true) := by
        refine ⟨xs.findIdx (fun y => !Op.bytesLess y.toList x.toList), List.findIdx_le_length, fun i hi hik => ?_, fun h => ?_⟩
        · have := List.not_of_lt_findIdx hik
          simpa using this
        · have := List.findIdx_getElem (w := h)
          simpa using this
      have hb : Lib.bsGo (fun t => Op.bytesLess (if h : t < xs.length then xs[t] else x).toList x.toList) xs.length 0 xs.length = k := by
        refine Lib.bsGo_spec _ k (fun t ht => ?_) (fun t ht => ?_) _ _ _ (by omega) (by omega) hk
        · have htn : t < xs.length := by omega
          rw [hSx t htn]
          exact hk1 t htn ht
        · by_cases htn : t < xs.length
          · rw [hSx t htn, Bool.eq_false_iff]
            intro e
            rcases Nat.lt_or_ge k t with hlt | hge
            · have h3 := (List.pairwise_iff_getElem.1 hs) k t (by omega) htn hlt
              exact hk2 (by omega) (bytesLess_trans _ _ _ h3 e)
            · obtain rfl : k = t := by omega
              exact hk2 htn e
          · simp only [htn, dite_false]
            exact bytesLess_irrefl _
      rw [hb]
      have hat := insS_at x xs k hk hk1 hk2
      refine ⟨k, _, q, rfl, rfl, hk, fun h => ?_, fun h => ?_⟩
      · rw [decide_eq_true_eq] at h
        rw [hSx k h.1] at h
        exact hat.1 h.1 (by rw [h.2])
      · rw [decide_eq_false_iff_not] at h
        refine hat.2 (fun hkn e => h ⟨hkn, ?_⟩)
        rw [hSx k hkn]
        rw [ByteArray.toList_eq, ByteArray.toList_eq] at e
        exact bytes_inj' e

set_option maxHeartbeats 1000000 in
theorem c_addS (base sb : Nat) (xs : List ByteArray) (x : ByteArray) (v : Value) (w : World) (h : SetS w base sb xs v) (hn : xs.length ≤ 2 ^ 29) (hbase : base ≤ w.heap.size) (hsort : (insS x xs).Pairwise (fun a b => Op.bytesLess a.toList b.toList = true)) :
    Calls Tryd.prog 80 #[.pointer (some ⟨sb, 0, none⟩), .string x] w (AddedSetS base sb v (insS x xs) w) := by
  have HS := Lib.hid (c_searchS xs x v w base h.own h.sorted (by omega))
  have hc : w.cell? ⟨sb, 0, none⟩ = some v := by rw [cell_of_row w sb 0 _ _ _ h.blk]; rfl
  have hf : w.frozen? ⟨sb, 0, none⟩ = false := by simp [World.frozen?, h.blk]
  have hlt : sb < w.heap.size := by
    rcases Nat.lt_or_ge sb w.heap.size with hl | hl
    · exact hl
    · have := h.blk; rw [Array.getElem?_eq_none hl] at this; cases this
  obtain ⟨A, c, rfl⟩ : ∃ A c, v = .slice A xs.length c := by
    rcases h.own.2 with ⟨rfl, h0⟩ | ⟨g, cap, cur, rfl, _⟩
    · exact ⟨none, 0, by rw [h0]⟩
    · exact ⟨_, _, rfl⟩
  have HH := Lib.hid h
  clear h
  have Hsort := Lib.hid hsort; clear hsort
  generalize hl : xs.length = n at *
  have Hn := Lib.hid hl; clear hl
  go_enter Tryd.func80, Tryd.ntmps80
  go_wp2_with fail
  refine HS.out.mono ?_
  rintro e w1 ⟨i, b, q, rfl, rfl, hi, hb1, hb2⟩
  rw [Hn.out] at hi
  cases b
  rotate_left
  · have HZ := Lib.hid (hb1 rfl)
    clear hb1 hb2
    go_wp2
    go_returns
    exact ⟨rfl, _, by rw [HZ.out]; exact ⟨HH.out.blk, HH.out.own, HH.out.ge, HH.out.sorted⟩, ⟨rfl, rfl, rfl, Nat.le_refl _, fun _ _ _ _ => rfl, .inl rfl⟩⟩
  · have HZ := Lib.hid (hb2 rfl)
    clear hb1 hb2
    have hbW : Hid (∀ o : Obj, Below w.heap.size w ((w.drewN q).alloc o)) := Lib.hid (fun o => Below.alloc (a := w) (w := w.drewN q) (B := w.heap.size) ⟨rfl, rfl, rfl, Nat.le_refl _, fun _ _ => rfl⟩ (Nat.le_refl _) o)
    have hown : Hid (∀ k, (Value.slice A n c).ownBlock = some k → k < w.heap.size ∧ k ≠ sb) := Lib.hid (fun k hk => by
      rcases HH.out.own.2 with ⟨hv, _⟩ | ⟨g, cap, cur, hv, hg, hh, _⟩
      · rw [hv] at hk; simp [Value.ownBlock] at hk
      · rw [hv] at hk
        simp only [Value.ownBlock, Option.some.injEq] at hk
        subst hk
        refine ⟨?_, fun e => ?_⟩
        · rcases Nat.lt_or_ge g w.heap.size with hl | hl
          · exact hl
          · rw [Array.getElem?_eq_none hl] at hh; cases hh
        · subst e
          have hb := HH.out.blk
          rw [hh] at hb
          simp at hb)
    have HOW : Hid (∀ o : Obj, ((w.drewN q).alloc o).ownsRow base 9 1 (.slice A n c) n (strs xs)) := Lib.hid (fun o => by have := (HH.out.step (hbW.out o)).own; rw [Hn.out] at this; exact this)
    go_wp2_with fail
    refine (c_InsertStrs base n i w.heap.size (.slice A n c) (strs xs) (.string x) _ (HOW.out _) (strs_one xs) rfl hi (by omega) (by go_size) (blk_new (w.drewN q) _) (fun e => by have := (hown.out _ e).1; omega)).mono ?_
    rintro e w2 ⟨v2, rfl, hown2, hg2, hat2⟩
    have hs2 := hg2.size
    simp at hs2
    have hsb2 : w2.heap[sb]? = some (.cells #[.slice A n c] 74 (0, 0)) := by
      rw [hg2.block sb (by simp; omega) (fun e => (hown.out sb e.symm).2 rfl)]
      rw [Below.heap_alloc _ _ _ (by exact hlt)]
      exact HH.out.blk
    have hc2 : w2.cell? ⟨sb, 0, none⟩ = some (.slice A n c) := by rw [cell_of_row w2 sb 0 _ _ _ hsb2]; rfl
    have hf2 : w2.frozen? ⟨sb, 0, none⟩ = false := by simp [World.frozen?, hsb2]
    have hne2 : Hid (v2.ownBlock ≠ some sb) := Lib.hid (fun e => by
      rcases hat2 with h | h
      · rw [h] at e; exact (hown.out sb e).2 rfl
      · rw [h] at e; simp at e; omega)
    obtain ⟨A2, c2, rfl⟩ : ∃ A c, v2 = .slice A (n + 1) c := by
      rcases hown2.2 with ⟨_, h0⟩ | ⟨g, cap, cur, rfl, _⟩
      · omega
      · exact ⟨_, _, rfl⟩
    have HO2 := Lib.hid hown2
    have HG2 := Lib.hid hg2
    have HSB := Lib.hid hsb2
    have HAT := Lib.hid hat2
    clear hown2 hg2 hsb2 hat2
    go_wp2
    go_returns
    have hlen : (insS x xs).length = n + 1 := by rw [HZ.out]; simp [Hn.out]; omega
    have hency : (strs xs).take i ++ .string x :: (strs xs).drop i = strs (insS x xs) := by rw [HZ.out]; simp [strs]
    refine ⟨rfl, .slice A2 (n + 1) c2, ⟨?_, ?_, HH.out.ge, Hsort.out⟩, ⟨?_, ?_, ?_, ?_, ?_, ?_⟩⟩
    · simp [World.setCell, Array.getElem?_modify, HSB.out]
    · have := own_setCell_far HO2.out ⟨sb, 0, none⟩ (.slice A2 (n + 1) c2) hne2.out
      rw [hency] at this
      rw [hlen]
      exact this
    · exact HG2.out.os
    · exact HG2.out.tape
    · exact HG2.out.output
    · simp [World.setCell]; omega
    · intro k hk h1 h2
      rw [Below.heap_setCell _ _ _ _ h1, HG2.out.block k (by simp; omega) h2]
      exact Below.heap_alloc _ _ _ hk
    · rcases HAT.out with h | h
      · exact .inl h
      · exact .inr ⟨w.heap.size + 1, by simpa using h, by omega⟩
end Go.Proofs.YtdbflfakocaapaaDoor
