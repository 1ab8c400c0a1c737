/- slices.Insert of one element into a row of the call's own, at []int and []string: from the shelf's contracts, in the words ownsRow and grownBy.
  The program's sorted sets: add, at ints and at strings.
  Contracts of collectFree, FreeVars, collectNames, Names.
  Plain: the order of byte strings; the names of a term.
  Plain: the order of terms: a total order.
  Contracts of cmp.Compare, cmp.Or, Compare, Equal, TermCompare, TermEqual.
  Contracts of Compare, Equal, TermCompare, TermEqual. -/
import Derived.Test.YtdjldmpfginkdaaGreatDoorGInts
import Derived.Test.YtdjldmpfginkdaaGreatDoorShelfP
import Derived.Test.YtdjldmpfginkdaaGreatDoorGPlain
import Derived.Test.YtdjldmpfginkdaaGreatDoorValid
import Derived.Deep.RegionHeld3
import Derived.Test.YtdjldmpfginkdaaGreatDoorGBase
namespace Go.Proofs.YtdjldmpfginkdaaGreatDoor
open Go.RowKit

def setMany : List Value → Nat → Array Value → Array Value
  | [], _, cur => cur
  | v :: vs, o, cur => setMany vs (o + 1) (cur.setIfInBounds o v)
theorem setMany_list : ∀ (vs : List Value) (o : Nat) (cur : Array Value), o + vs.length ≤ cur.size → (setMany vs o cur).toList = cur.toList.take o ++ vs ++ cur.toList.drop (o + vs.length)
  | [], o, cur, h => by simp [setMany]
  | v :: vs, o, cur, h => by
    simp only [List.length_cons] at h
    rw [setMany, setMany_list vs (o + 1) _ (by simp; omega)]
    have h1 : (cur.setIfInBounds o v).toList = cur.toList.set o v := by simp
    rw [h1]
    have ho : o < cur.toList.length := by simp; omega
    rw [List.take_set, List.drop_set_of_lt (by omega)]
    have : (cur.toList.take (o + 1)).set o v = cur.toList.take o ++ [v] := by
      rw [List.take_succ_eq_append_getElem ho, List.set_append_right _ _ (by simp; omega)]
      have h0 : o - (cur.toList.take o).length = 0 := by simp; omega
      rw [h0]
      rfl
    rw [this]
    simp [Nat.add_assoc, Nat.add_comm 1]
theorem setMany_size : ∀ (vs : List Value) (o : Nat) (cur : Array Value), (setMany vs o cur).size = cur.size
  | [], _, _ => rfl
  | v :: vs, o, cur => by rw [setMany, setMany_size vs]; simp
theorem heap_setCells_at {b : Nat} {e : TypeId} {fr : Nat × Nat} : ∀ (vs : List Value) (o : Nat) (w : World) (cur : Array Value), w.heap[b]? = some (.cells cur e fr) → (w.setCells b o vs).heap[b]? = some (.cells (setMany vs o cur) e fr)
  | [], _, _, _, h => h
  | v :: vs, o, w, cur, h => by
    rw [World.setCells, setMany]
    refine heap_setCells_at vs (o + 1) _ _ ?_
    simp [World.setCell, Array.getElem?_modify, h]
theorem setCells_frame {b : Nat} : ∀ (vs : List Value) (o : Nat) (w : World), (w.setCells b o vs).os = w.os ∧ (w.setCells b o vs).tape = w.tape ∧ (w.setCells b o vs).output = w.output ∧ (w.setCells b o vs).heap.size = w.heap.size ∧ ∀ k, k ≠ b → (w.setCells b o vs).heap[k]? = w.heap[k]?
  | [], _, w => ⟨rfl, rfl, rfl, rfl, fun _ _ => rfl⟩
  | v :: vs, o, w => by
    obtain ⟨h1, h2, h3, h4, h5⟩ := setCells_frame (b := b) vs (o + 1) (w.setCell ⟨b, o, none⟩ v)
    rw [World.setCells]
    exact ⟨h1, h2, h3, by rw [h4]; simp [World.setCell], fun k hk => by rw [h5 k hk]; exact Below.heap_setCell _ _ _ _ hk⟩
theorem shift_list (l cs : List Value) (x : Value) (n i : Nat) (hl : l.take n = cs) (hn : cs.length = n) (hi : i ≤ n) (hr : n + 1 ≤ l.length) :
    (((l.take (i + 1) ++ cs.drop i ++ l.drop (i + 1 + (cs.drop i).length)).take i ++ [x] ++ (l.take (i + 1) ++ cs.drop i ++ l.drop (i + 1 + (cs.drop i).length)).drop (i + [x].length)).take (n + 1)) = cs.take i ++ x :: cs.drop i := by
  have e1 : (l.take (i + 1) ++ cs.drop i ++ l.drop (i + 1 + (cs.drop i).length)).take i = cs.take i := by
    rw [List.append_assoc, List.take_append_of_le_length (by simp; omega), List.take_take, ← hl, List.take_take]
    congr 1
    omega
  have e2 : (l.take (i + 1) ++ cs.drop i ++ l.drop (i + 1 + (cs.drop i).length)).drop (i + [x].length) = cs.drop i ++ l.drop (i + 1 + (cs.drop i).length) := by
    rw [List.append_assoc]
    have hlen : (l.take (i + 1)).length = i + 1 := by simp; omega
    show List.drop (i + 1) _ = _
    rw [List.drop_append_of_le_length (by omega), List.drop_eq_nil_of_le (by omega)]
    rfl
  rw [e1, e2]
  have : (cs.take i ++ [x] ++ (cs.drop i ++ l.drop (i + 1 + (cs.drop i).length))) = (cs.take i ++ x :: cs.drop i) ++ l.drop (i + 1 + (cs.drop i).length) := by simp
  rw [this, List.take_append_of_le_length (by simp; omega), List.take_of_length_le (by simp; omega)]

theorem grow_list (l cs : List Value) (x : Value) (n i : Nat) (hl : l.take i = cs.take i) (hn : cs.length = n) (hi : i ≤ n) (_hr : n + 1 ≤ l.length) :
    ((l.take i ++ [x] ++ l.drop (i + [x].length)).take (i + 1) ++ cs.drop i ++ (l.take i ++ [x] ++ l.drop (i + [x].length)).drop (i + 1 + (cs.drop i).length)).take (n + 1) = cs.take i ++ x :: cs.drop i := by
  have e1 : (l.take i ++ [x] ++ l.drop (i + [x].length)).take (i + 1) = cs.take i ++ [x] := by
    rw [hl, List.take_append_of_le_length (by simp; omega), List.take_of_length_le (by simp; omega)]
  rw [e1, List.take_append_of_le_length (by simp; omega), List.take_of_length_le (by simp; omega)]
  simp

/-- What an insertion leaves: the row has grown by one element; nothing else that was there has changed. -/
def InsPost (T : TypeId) (base : Nat) (v : Value) (cs : List Value) (n : Nat) (w : World) (e : Ending) (w' : World) : Prop :=
  ∃ v', e = .returned v' ∧ w'.ownsRow base T 1 v' n cs ∧ w.grownBy w' v.ownBlock ∧ (v'.ownBlock = v.ownBlock ∨ v'.ownBlock = some w.heap.size)

theorem c_InsertInts (base n i vb : Nat) (v : Value) (cs : List Value) (x : Value) (w : World) (hown : w.ownsRow base 3 1 v n cs) (h1 : ∀ u ∈ cs, u.oneCell' = true) (hx : x.oneCell' = true) (hi : i ≤ n) (hn : n ≤ 2 ^ 30) (hbase : base ≤ w.heap.size)
    (hvb : w.heap[vb]? = some (.cells #[x] 3 (0, 0))) (hne : v.ownBlock ≠ some vb) :
    Calls Tryz.prog 111 #[v, .int .i64 i, .slice (some ⟨vb, 0, none⟩) 1 1] w (InsPost 3 base v (cs.take i ++ x :: cs.drop i) (n + 1) w) := by
  have hcl : cs.length = n := by have := hown.1; omega
  have hvs : ∀ j u, [x][j]? = some u → w.cell? ⟨vb, 0 + j, none⟩ = some u := fun j u hu => by rw [Nat.zero_add, cell_of_row w vb j #[x] _ _ hvb]; simpa using hu
  have h1v : ∀ u ∈ [x], u.oneCell' = true := by simpa using hx
  have hlist : (cs.take i ++ x :: cs.drop i).length = (n + 1) * 1 := by simp; omega
  have hgc := grownCap_ge w (n + 1)
  rcases hown.2 with ⟨rfl, rfl⟩ | ⟨g, cap, cur, rfl, hbg, hg, hnc, hcm, hcs, htake⟩
  · obtain rfl : i = 0 := by omega
    obtain rfl : cs = [] := List.eq_nil_of_length_eq_zero hcl
    refine (Any2.slices_Insert_int_end_grow Tryz.laysInsI none 0 0 vb 0 1 1 [] [x] w (by omega) (by omega) (by omega) (by omega) rfl rfl (fun _ => rfl) (by simp) hvs h1v).mono ?_
    intro e w' hh
    simp only [show Tryz.laysInsI_ren.t 3 = 3 from rfl] at hh
    obtain ⟨rfl, rfl⟩ := hh
    have hc1 := grownCap_ge w 1 0 3
    have hc2 := grownCap_le_maxLen w 1 0 3 (by simp [maxLen])
    refine ⟨_, rfl, ⟨by simp, .inr ⟨w.heap.size, _, _, rfl, hbase, heap_alloc_new w.drew _, hc1, hc2, ?_, ?_⟩⟩, ⟨rfl, rfl, rfl, by simp, fun k hk _ => Below.heap_alloc w.drew _ k hk⟩, .inr rfl⟩
    · simp only [Array.size_append, List.size_toArray, size_zeroCells]
      simp [Value.cells]
      omega
    · simp
  · have hcells : ∀ j u, cs[j]? = some u → w.cell? ⟨g, 0 + j, none⟩ = some u := fun j u hu => by
      have := hown.cells (g := g) rfl j u hu
      simpa [Addr.add_lit] using this
    have hcur : ∀ j, j < cap → (w.cell? ⟨g, j, none⟩).isSome = true := fun j hj => by
      rw [cell_of_row w g j cur _ _ hg]
      simp; omega
    have hfz : ∀ j, w.frozen? ⟨g, j, none⟩ = false := fun j => by simp [World.frozen?, hg]
    have hcl2 : cur.toList.length = cap := by simpa using hcs
    have hgne : vb ≠ g := fun e => hne (by rw [e]; rfl)
    have htake' : cur.toList.take n = cs := by simpa using htake
    by_cases hroom : n + 1 ≤ cap
    · by_cases hin : i = n
      · subst hin
        refine (Any2.slices_Insert_int_end_room Tryz.laysInsI g 0 i cap vb 0 1 1 [x] w (by omega) hroom (by simpa [maxLen] using hcm) rfl (fun j hj => by rw [Nat.zero_add]; exact hcur _ (by omega)) (fun j hj => hfz _) hvs h1v).mono ?_
        rintro e w' ⟨rfl, rfl⟩
        obtain ⟨f1, f2, f3, f4, f5⟩ := setCells_frame (b := g) [x] (0 + i) w
        refine ⟨_, rfl, ⟨hlist, .inr ⟨g, cap, _, rfl, hbg, heap_setCells_at _ _ _ _ hg, hroom, hcm, by rw [setMany_size]; exact hcs, ?_⟩⟩, ⟨f1, f2, f3, by omega, fun k _ hk => f5 k (fun e => hk (by simp [Value.ownBlock, e]))⟩, .inl rfl⟩
        rw [setMany_list _ _ _ (by simp; omega), Nat.zero_add, htake', Nat.mul_one, List.append_assoc, ← List.append_assoc]
        rw [List.take_append_of_le_length (by simp; omega), List.take_of_length_le (by simp; omega), List.take_of_length_le (by omega), List.drop_eq_nil_of_le (by omega)]
      · have hlt : i < n := by omega
        refine (Any2.slices_Insert_int_shift Tryz.laysInsI g 0 n cap i vb 0 1 1 cs [x] w hlt (by omega) hroom (by simpa [maxLen] using hcm) hgne hcl rfl hcells (fun j hj => by rw [Nat.zero_add]; exact hcur _ (by omega)) (fun j hj => hfz _) hvs h1 h1v
          3 3 1 cur.size (by simp [World.shape?, hvb]) (by simp [World.shape?, hg]) (by simp at hcs; omega) (by simp [World.frozen?, hvb]) (by simp [World.frozen?, hvb])).mono ?_
        rintro e w' ⟨rfl, rfl⟩
        obtain ⟨f1, f2, f3, f4, f5⟩ := setCells_frame (b := g) (cs.drop i) (0 + (i + 1)) w.drew
        obtain ⟨g1, g2, g3, g4, g5⟩ := setCells_frame (b := g) [x] (0 + i) (w.drew.setCells g (0 + (i + 1)) (cs.drop i))
        refine ⟨_, rfl, ⟨hlist, .inr ⟨g, cap, _, rfl, hbg, heap_setCells_at _ _ _ _ (heap_setCells_at _ _ _ _ hg), hroom, hcm, by rw [setMany_size, setMany_size]; exact hcs, ?_⟩⟩, ⟨g1.trans f1, g2.trans f2, g3.trans f3, by rw [g4, f4]; exact Nat.le_refl _, fun k _ hk => (g5 k (fun e => hk (by simp [Value.ownBlock, e]))).trans (f5 k (fun e => hk (by simp [Value.ownBlock, e])))⟩, .inl rfl⟩
        rw [setMany_list _ _ _ (by rw [setMany_size]; simp; omega), setMany_list _ _ _ (by simp; omega), Nat.zero_add, Nat.zero_add, Nat.mul_one]
        exact shift_list _ _ _ _ _ htake' hcl hi (by omega)
    · by_cases hin : i = n
      · subst hin
        refine (Any2.slices_Insert_int_end_grow Tryz.laysInsI (some ⟨g, 0, none⟩) i cap vb 0 1 1 cs [x] w (by omega) hnc (by omega) (by omega) hcl rfl (by simp) (fun a ha j u hu => by
          simp only [Option.some.injEq] at ha
          subst ha
          exact hown.cells (g := g) rfl j u hu) hvs h1v).mono ?_
        intro e w' hh
        simp only [show Tryz.laysInsI_ren.t 3 = 3 from rfl] at hh
        obtain ⟨rfl, rfl⟩ := hh
        have hc1 := grownCap_ge w (i + 1) cap 3
        have hc2 := grownCap_le_maxLen w (i + 1) cap 3 (by simp [maxLen]; omega)
        have e0 : cs.take i ++ x :: cs.drop i = cs ++ [x] := by rw [List.take_of_length_le (by omega), List.drop_eq_nil_of_le (by omega)]
        rw [e0] at hlist ⊢
        refine ⟨_, rfl, ⟨hlist, .inr ⟨w.heap.size, _, _, rfl, hbase, heap_alloc_new w.drew _, hc1, hc2, ?_, ?_⟩⟩, ⟨rfl, rfl, rfl, by simp, fun k hk _ => Below.heap_alloc w.drew _ k hk⟩, .inr rfl⟩
        · simp only [Array.size_append, List.size_toArray, size_zeroCells]
          simp [Value.cells, hcl]
          omega
        · rw [Array.toList_append, List.take_append_of_le_length (by simp; omega), List.take_of_length_le (by simp; omega)]
      · have hlt : i < n := by omega
        refine (Any2.slices_Insert_int_grow Tryz.laysInsI g 0 n cap i vb 0 1 1 cs [x] w hlt (by omega) hnc (by omega) (by omega) hcl rfl hcells hvs h1 h1v).mono ?_
        intro e w' hh
        simp only [show Tryz.laysInsI_ren.t 3 = 3 from rfl] at hh
        obtain ⟨rfl, rfl⟩ := hh
        have hc1 := grownCap_ge w (n + 1) cap 3
        have hc2 := grownCap_le_maxLen w (n + 1) cap 3 (by simp [maxLen]; omega)
        generalize hA : (cs.take i).toArray ++ Builtin.zeroCells (Value.cells (.int .i64 0)) (n + 1 - i) ++ Builtin.zeroCells (Value.cells (.int .i64 0)) (grownCap w (n + 1) cap 3 - (n + 1)) = arr
        have hAs : arr.size = grownCap w (n + 1) cap 3 := by
          rw [← hA]
          simp only [Array.size_append, List.size_toArray, size_zeroCells]
          simp [Value.cells]
          omega
        have hAt : arr.toList.take i = cs.take i := by
          rw [← hA, Array.toList_append, Array.toList_append, List.append_assoc, List.take_append_of_le_length (by simp; omega), List.take_of_length_le (by simp; omega)]
        obtain ⟨f1, f2, f3, f4, f5⟩ := setCells_frame (b := w.heap.size) [x] i (w.alloc (.cells arr 3)).drew
        obtain ⟨g1, g2, g3, g4, g5⟩ := setCells_frame (b := w.heap.size) (cs.drop i) (i + 1) ((w.alloc (.cells arr 3)).drew.setCells w.heap.size i [x]).drew
        refine ⟨_, rfl, ⟨hlist, .inr ⟨w.heap.size, _, _, rfl, hbase, heap_setCells_at _ _ _ _ (heap_setCells_at _ _ (w.alloc (.cells arr 3)).drew _ (heap_alloc_new w _)), hc1, hc2, by rw [setMany_size, setMany_size, hAs, Nat.mul_one], ?_⟩⟩, ⟨g1.trans f1, g2.trans f2, g3.trans f3, ?_, fun k hk _ => (g5 k (by omega)).trans ((f5 k (by omega)).trans (Below.heap_alloc w _ k hk))⟩, .inr rfl⟩
        · rw [setMany_list _ _ _ (by rw [setMany_size]; simp; omega), setMany_list _ _ _ (by simp; omega), Nat.mul_one]
          exact grow_list _ _ _ _ _ hAt hcl hi (by simp; omega)
        · rw [g4]
          show _ ≤ ((w.alloc (.cells arr 3)).drew.setCells w.heap.size i [x]).heap.size
          rw [f4]
          simp

end Go.Proofs.YtdjldmpfginkdaaGreatDoor
namespace Go.Proofs.YtdjldmpfginkdaaGreatDoor
open Go.RowKit

/-- One step of a set at block sb, whose elements were v and are now v': only its own blocks have changed. -/
structure SetStep (sb : Nat) (v : Value) (w w' : World) (v' : Value) : Prop where
  os : w'.os = w.os
  tape : w'.tape = w.tape
  output : w'.output = w.output
  size : w.heap.size ≤ w'.heap.size
  block : ∀ k, k < w.heap.size → k ≠ sb → some k ≠ v.ownBlock → w'.heap[k]? = w.heap[k]?
  row : v'.ownBlock = v.ownBlock ∨ ∃ k, v'.ownBlock = some k ∧ w.heap.size ≤ k
theorem SetStep.refl (sb : Nat) (v : Value) (w : World) : SetStep sb v w w v := ⟨rfl, rfl, rfl, Nat.le_refl _, fun _ _ _ _ => rfl, .inl rfl⟩
theorem SetStep.trans {sb : Nat} {v v' v'' : Value} {w w' w'' : World} (h : SetStep sb v w w' v') (k : SetStep sb v' w' w'' v'') : SetStep sb v w w'' v'' := by
  refine ⟨k.os.trans h.os, k.tape.trans h.tape, k.output.trans h.output, Nat.le_trans h.size k.size, fun i hi h1 h2 => ?_, ?_⟩
  · have h3 : some i ≠ v'.ownBlock := by
      rcases h.row with e | ⟨j, e, hj⟩
      · rw [e]; exact h2
      · rw [e]; intro e2; injection e2 with e2; omega
    exact (k.block i (Nat.lt_of_lt_of_le hi h.size) h1 h3).trans (h.block i hi h1 h2)
  · rcases k.row with e | ⟨j, e, hj⟩
    · rcases h.row with e2 | ⟨j, e2, hj⟩
      · exact .inl (e.trans e2)
      · exact .inr ⟨j, e.trans e2, hj⟩
    · exact .inr ⟨j, e, Nat.le_trans h.size hj⟩
theorem SetStep.of_below {sb : Nat} {v : Value} {w w' : World} (h : Below w.heap.size w w') : SetStep sb v w w' v := ⟨h.os, h.tape, h.output, h.size, fun k hk _ _ => h.block k hk, .inl rfl⟩
/-- What lies below the set's blocks is as it was. -/
theorem SetStep.below {sb base B : Nat} {v v' : Value} {w w' : World} (h : SetStep sb v w w' v') (h1 : B ≤ sb) (h2 : ∀ k, v.ownBlock = some k → base ≤ k) (hB : B ≤ base) (hs : B ≤ w.heap.size) : Below B w w' :=
  ⟨h.os, h.tape, h.output, h.size, fun k hk => h.block k (by omega) (by omega) (fun e => by have := h2 k e.symm; omega)⟩
theorem own_setCell_far {w : World} {base size n : Nat} {e : TypeId} {v : Value} {xs : List Value} (h : w.ownsRow base e size v n xs) (a : Addr) (u : Value) (hne : v.ownBlock ≠ some a.block) : (w.setCell a u).ownsRow base e size v n xs := by
  refine ⟨h.1, ?_⟩
  rcases h.2 with h1 | ⟨g, cap, cur, hv, hg, hh, r⟩
  · exact .inl h1
  · refine .inr ⟨g, cap, cur, hv, hg, ?_, r⟩
    rw [Below.heap_setCell _ _ _ _ (fun e => hne (by rw [hv, ← e]; rfl))]
    exact hh

/-- The set at block sb holds xs; its blocks lie from base on. -/
structure SetI (w : World) (base sb : Nat) (xs : List Int) (v : Value) : Prop where
  blk : w.heap[sb]? = some (.cells #[v] 92 (0, 0))
  own : w.ownsRow base 3 1 v xs.length (ints xs)
  ge : base ≤ sb
  sorted : xs.Pairwise (· < ·)
theorem SetI.ne {w : World} {base sb : Nat} {xs : List Int} {v : Value} (h : SetI w base sb xs v) {b : Nat} {t : TypeId} {cs : Array Value} {f : Nat × Nat} (hb : w.heap[b]? = some (.cells cs t f)) (ht : t ≠ 3) (ht2 : t ≠ 92) : b ≠ sb ∧ some b ≠ v.ownBlock := by
  refine ⟨fun e => ?_, fun e => ?_⟩
  · subst e
    rw [h.blk] at hb
    simp only [Option.some.injEq, Obj.cells.injEq] at hb
    exact ht2 hb.2.1.symm
  · rcases h.own.2 with ⟨hv, _⟩ | ⟨g, cap, cur, hv, hg, hh, _⟩
    · rw [hv] at e; simp [Value.ownBlock] at e
    · rw [hv] at e
      simp only [Value.ownBlock, Option.some.injEq] at e
      subst e
      rw [hh] at hb
      simp only [Option.some.injEq, Obj.cells.injEq] at hb
      exact ht hb.2.1.symm
theorem SetI.step {w w' : World} {base sb : Nat} {xs : List Int} {v : Value} (h : SetI w base sb xs v) (hb : Below w.heap.size w w') : SetI w' base sb xs v := by
  have hlt : sb < w.heap.size := by
    rcases Nat.lt_or_ge sb w.heap.size with hl | hl
    · exact hl
    · have := h.blk; rw [Array.getElem?_eq_none hl] at this; cases this
  refine ⟨(hb.block sb hlt).trans h.blk, ?_, h.ge, h.sorted⟩
  refine ⟨h.own.1, ?_⟩
  rcases h.own.2 with h1 | ⟨g, cap, cur, hv, hg, hh, r⟩
  · exact .inl h1
  · have hlt : g < w.heap.size := by
      rcases Nat.lt_or_ge g w.heap.size with hl | hl
      · exact hl
      · rw [Array.getElem?_eq_none hl] at hh; cases hh
    exact .inr ⟨g, cap, cur, hv, hg, (hb.block g hlt).trans hh, r⟩
/-- A set after an operation that has made it xs. -/
def AddedSetI (base sb : Nat) (v : Value) (xs : List Int) (w : World) (e : Ending) (w' : World) : Prop := e = .returned (.tuple #[]) ∧ ∃ v', SetI w' base sb xs v' ∧ SetStep sb v w w' v'

/-- What BinarySearch is to find: the place, and whether the element is there. -/
def FoundSetI (xs : List Int) (x : Int) (w : World) (e : Ending) (w' : World) : Prop := ∃ (i : Nat) (b : Bool) (q : Nat), e = .returned (.tuple #[.int .i64 i, .bool b]) ∧ w' = w.drewN q ∧ i ≤ xs.length ∧ (b = true → ins x xs = xs) ∧ (b = false → ins x xs = xs.take i ++ x :: xs.drop i)
theorem c_searchI (xs : List Int) (x : Int) (v : Value) (w : World) (base : Nat) (hown : w.ownsRow base 3 1 v xs.length (ints xs)) (hs : xs.Pairwise (· < ·)) (hn : xs.length ≤ 2 ^ 30) :
    Calls Tryz.prog 110 #[v, .int .i64 x] w (FoundSetI xs x w) := by
  rcases hown.2 with ⟨rfl, h0⟩ | ⟨g, cap, cur, rfl, hg, hh, hnc, r⟩
  · obtain rfl : xs = [] := List.eq_nil_of_length_eq_zero h0
    refine (Any.slices_BinarySearch_int_empty Tryz.laysBsI none 0 x w).mono ?_
    rintro e w' ⟨rfl, rfl⟩
    exact ⟨0, false, 0, rfl, rfl, by simp, by simp, by simp [ins]⟩
  · refine (Any.slices_BinarySearch_int Tryz.laysBsI g 0 xs.length cap xs x w (Nat.le_refl _) (by omega) (fun j hj => ?_) ?_).mono ?_
    · have := hown.cells (g := g) rfl j (.int .i64 xs[j]) (by simp [ints, hj])
      simp only [Addr.add_lit] at this
      rw [this]
      simp [hj]
    · rw [List.take_of_length_le (Nat.le_refl _)]
      exact hs.imp (fun h => Int.le_of_lt h)
    · rintro e w' ⟨rfl, q, rfl⟩
      rw [List.take_of_length_le (Nat.le_refl _)]
      refine ⟨_, _, q, rfl, rfl, List.countP_le_length, fun h => ins_mem_self x xs hs (by simpa using h), fun h => ins_split x xs hs (by simpa using h)⟩

set_option maxHeartbeats 1000000 in
theorem c_addI (base sb : Nat) (xs : List Int) (x : Int) (v : Value) (w : World) (h : SetI w base sb xs v) (hn : xs.length ≤ 2 ^ 29) (hbase : base ≤ w.heap.size) (hsort : (ins x xs).Pairwise (· < ·)) :
    Calls Tryz.prog 85 #[.pointer (some ⟨sb, 0, none⟩), .int .i64 x] w (AddedSetI base sb v (ins x xs) w) := by
  have HS := Lib.hid (c_searchI xs x v w base h.own h.sorted (by omega))
  have hc : w.cell? ⟨sb, 0, none⟩ = some v := by rw [cell_of_row w sb 0 _ _ _ h.blk]; rfl
  have hf : w.frozen? ⟨sb, 0, none⟩ = false := by simp [World.frozen?, h.blk]
  have hlt : sb < w.heap.size := by
    rcases Nat.lt_or_ge sb w.heap.size with hl | hl
    · exact hl
    · have := h.blk; rw [Array.getElem?_eq_none hl] at this; cases this
  obtain ⟨A, c, rfl⟩ : ∃ A c, v = .slice A xs.length c := by
    rcases h.own.2 with ⟨rfl, h0⟩ | ⟨g, cap, cur, rfl, _⟩
    · exact ⟨none, 0, by rw [h0]⟩
    · exact ⟨_, _, rfl⟩
  have HH := Lib.hid h
  clear h
  have Hsort := Lib.hid hsort; clear hsort
  generalize hl : xs.length = n at *
  have Hn := Lib.hid hl; clear hl
  go_enter Tryz.func85, Tryz.ntmps85
  go_wp2_with fail
  refine HS.out.mono ?_
  rintro e w1 ⟨i, b, q, rfl, rfl, hi, hb1, hb2⟩
  rw [Hn.out] at hi
  cases b
  rotate_left
  · have HZ := Lib.hid (hb1 rfl)
    clear hb1 hb2
    go_wp2
    go_returns
    exact ⟨rfl, _, by rw [HZ.out]; exact ⟨HH.out.blk, HH.out.own, HH.out.ge, HH.out.sorted⟩, ⟨rfl, rfl, rfl, Nat.le_refl _, fun _ _ _ _ => rfl, .inl rfl⟩⟩
  · have HZ := Lib.hid (hb2 rfl)
    clear hb1 hb2
    have hbW : Hid (∀ o : Obj, Below w.heap.size w ((w.drewN q).alloc o)) := Lib.hid (fun o => Below.alloc (a := w) (w := w.drewN q) (B := w.heap.size) ⟨rfl, rfl, rfl, Nat.le_refl _, fun _ _ => rfl⟩ (Nat.le_refl _) o)
    have hown : Hid (∀ k, (Value.slice A n c).ownBlock = some k → k < w.heap.size ∧ k ≠ sb) := Lib.hid (fun k hk => by
      rcases HH.out.own.2 with ⟨hv, _⟩ | ⟨g, cap, cur, hv, hg, hh, _⟩
      · rw [hv] at hk; simp [Value.ownBlock] at hk
      · rw [hv] at hk
        simp only [Value.ownBlock, Option.some.injEq] at hk
        subst hk
        refine ⟨?_, fun e => ?_⟩
        · rcases Nat.lt_or_ge g w.heap.size with hl | hl
          · exact hl
          · rw [Array.getElem?_eq_none hl] at hh; cases hh
        · subst e
          have hb := HH.out.blk
          rw [hh] at hb
          simp at hb)
    have HOW : Hid (∀ o : Obj, ((w.drewN q).alloc o).ownsRow base 3 1 (.slice A n c) n (ints xs)) := Lib.hid (fun o => by have := (HH.out.step (hbW.out o)).own; rw [Hn.out] at this; exact this)
    go_wp2_with fail
    refine (c_InsertInts base n i w.heap.size (.slice A n c) (ints xs) (.int .i64 x) _ (HOW.out _) (ints_one xs) rfl hi (by omega) (by go_size) (blk_new (w.drewN q) _) (fun e => by have := (hown.out _ e).1; omega)).mono ?_
    rintro e w2 ⟨v2, rfl, hown2, hg2, hat2⟩
    have hs2 := hg2.size
    simp at hs2
    have hsb2 : w2.heap[sb]? = some (.cells #[.slice A n c] 92 (0, 0)) := by
      rw [hg2.block sb (by simp; omega) (fun e => (hown.out sb e.symm).2 rfl)]
      rw [Below.heap_alloc _ _ _ (by exact hlt)]
      exact HH.out.blk
    have hc2 : w2.cell? ⟨sb, 0, none⟩ = some (.slice A n c) := by rw [cell_of_row w2 sb 0 _ _ _ hsb2]; rfl
    have hf2 : w2.frozen? ⟨sb, 0, none⟩ = false := by simp [World.frozen?, hsb2]
    have hne2 : Hid (v2.ownBlock ≠ some sb) := Lib.hid (fun e => by
      rcases hat2 with h | h
      · rw [h] at e; exact (hown.out sb e).2 rfl
      · rw [h] at e; simp at e; omega)
    obtain ⟨A2, c2, rfl⟩ : ∃ A c, v2 = .slice A (n + 1) c := by
      rcases hown2.2 with ⟨_, h0⟩ | ⟨g, cap, cur, rfl, _⟩
      · omega
      · exact ⟨_, _, rfl⟩
    have HO2 := Lib.hid hown2
    have HG2 := Lib.hid hg2
    have HSB := Lib.hid hsb2
    have HAT := Lib.hid hat2
    clear hown2 hg2 hsb2 hat2
    go_wp2
    go_returns
    have hlen : (ins x xs).length = n + 1 := by rw [HZ.out]; simp [Hn.out]; omega
    have hency : (ints xs).take i ++ .int .i64 x :: (ints xs).drop i = ints (ins x xs) := by rw [HZ.out]; simp [ints]
    refine ⟨rfl, .slice A2 (n + 1) c2, ⟨?_, ?_, HH.out.ge, Hsort.out⟩, ⟨?_, ?_, ?_, ?_, ?_, ?_⟩⟩
    · simp [World.setCell, Array.getElem?_modify, HSB.out]
    · have := own_setCell_far HO2.out ⟨sb, 0, none⟩ (.slice A2 (n + 1) c2) hne2.out
      rw [hency] at this
      rw [hlen]
      exact this
    · exact HG2.out.os
    · exact HG2.out.tape
    · exact HG2.out.output
    · simp [World.setCell]; omega
    · intro k hk h1 h2
      rw [Below.heap_setCell _ _ _ _ h1, HG2.out.block k (by simp; omega) h2]
      exact Below.heap_alloc _ _ _ hk
    · rcases HAT.out with h | h
      · exact .inl h
      · exact .inr ⟨w.heap.size + 1, by simpa using h, by omega⟩

end Go.Proofs.YtdjldmpfginkdaaGreatDoor
namespace Go.Proofs.YtdjldmpfginkdaaGreatDoor
open Go.RowKit
attribute [local go_sem ↓] Go.wp_at_zero Go.wp_at_succ

theorem cells4 {w : World} {b : Nat} {x0 x1 x2 x3 : Value} {t : TypeId} {f : Nat × Nat} (h : w.heap[b]? = some (.cells #[x0, x1, x2, x3] t f)) :
    w.cell? ⟨b, 0, none⟩ = some x0 ∧ w.cell? ⟨b, 1, none⟩ = some x1 ∧ w.cell? ⟨b, 2, none⟩ = some x2 ∧ w.cell? ⟨b, 3, none⟩ = some x3 :=
  ⟨by rw [cell_of_row w b 0 _ _ _ h]; rfl, by rw [cell_of_row w b 1 _ _ _ h]; rfl, by rw [cell_of_row w b 2 _ _ _ h]; rfl, by rw [cell_of_row w b 3 _ _ _ h]; rfl⟩
theorem SetI.own_ge {w : World} {base sb : Nat} {xs : List Int} {v : Value} (h : SetI w base sb xs v) : ∀ k, v.ownBlock = some k → base ≤ k := Go.Proofs.YtdjldmpfginkdaaGreatDoor.own_ge h.own
theorem blk_lt {w : World} {b : Nat} {o : Obj} (h : w.heap[b]? = some o) : b < w.heap.size := by
  rcases Nat.lt_or_ge b w.heap.size with hl | hl
  · exact hl
  · rw [Array.getElem?_eq_none hl] at h; cases h


set_option maxHeartbeats 4000000 in
theorem c_collectFree (N : Nat) : ∀ (t : Ty) (d : Int) (xs : List Int) (w : World) (L B base sb : Nat) (vt v : Value), t.size ≤ N → IsTy w L B t vt → B ≤ base → t.ok → 0 ≤ d → d + t.size ≤ 2 ^ 50 → SetI w base sb xs v → base ≤ w.heap.size → xs.length + t.size ≤ 2 ^ 28 →
    Calls Tryz.prog 65 #[vt, .int .i64 d, .pointer (some ⟨sb, 0, none⟩)] w (AddedSetI base sb v (insAll xs (t.fvs d)) w) := by
  induction N with
  | zero => intro t d xs w L B base sb vt v h; have := t.size_pos; omega
  | succ N ih =>
  intro t d xs w L B base sb vt v hN ht0 hB hok hd0 hd hset hbase hM
  obtain ⟨A, c, rfl, hv⟩ := ht0.args_
  clear ht0
  rw [Ty.size_eq] at hN hM hd
  rw [Ty.ok_eq] at hok
  rw [Ty.fvs_eq]
  obtain ⟨hok1, hok2, hok3⟩ := hok
  unfold inI at hok1 hok2
  have hl := Ty.len_le t.args
  rw [show (if t.kind = 5 ∧ d ≤ t.index then [t.index - d] else []) = fvHead t.kind t.index d from rfl, insAll_append]
  have hfh : Hid (t.kind = 5 ∧ d ≤ t.index → fvHead t.kind t.index d = [t.index - d]) := Lib.hid (fun h => by simp [fvHead, h])
  have hfn : Hid (¬ (t.kind = 5 ∧ d ≤ t.index) → fvHead t.kind t.index d = []) := Lib.hid (fun h => by simp only [fvHead]; rw [if_neg h])
  have hfl : (fvHead t.kind t.index d).length ≤ 1 := by unfold fvHead; split <;> simp
  generalize fvHead t.kind t.index d = fh at *
  generalize t.kind = k, t.name = nm, t.index = ix, t.args = args at *
  have HV := Lib.hid hv; clear hv
  have IH := Lib.hid ih; clear ih
  have HO := Lib.hid hok3; clear hok3
  have HS := Lib.hid hset; clear hset
  have HOG := Lib.hid HS.out.own_ge
  generalize hn : args.length = n at *
  have Hn := Lib.hid hn; clear hn
  have hway : (k == 5) = false ∨ ((k == 5) = true ∧ ¬ d ≤ ix) ∨ ((k == 5) = true ∧ d ≤ ix) := by
    by_cases h : k = 5
    · by_cases h2 : d ≤ ix
      · exact .inr (.inr ⟨by rw [h]; rfl, h2⟩)
      · exact .inr (.inl ⟨by rw [h]; rfl, h2⟩)
    · exact .inl (by rw [beq_eq_false_iff_ne]; exact h)
  have hfh1 : Hid ((k == 5) = true → d ≤ ix → fh = [ix - d]) := Lib.hid (fun h1 h2 => hfh.out ⟨by simpa using h1, h2⟩)
  have hfn1 : Hid ((k == 5) = false → fh = []) := Lib.hid (fun h1 => hfn.out (fun h => by simp at h1; exact h1 h.1))
  have hfn2 : Hid (¬ d ≤ ix → fh = []) := Lib.hid (fun h1 => hfn.out (fun h => h1 h.2))
  clear hfh hfn
  rcases hway with hk5 | ⟨hk5, hix⟩ | ⟨hk5, hix⟩
  · have HF := Lib.hid (hfn1.out hk5)
    go_enter Tryz.func65, Tryz.ntmps65
    go_wp2
    have hx : (w.alloc (.cells #[.int .i64 k, .string nm, .int .i64 ix, .slice A n c] 33)).heap[w.heap.size]? = some (.cells #[.int .i64 k, .string nm, .int .i64 ix, .slice A n c] 33 (0, 0)) ∧ Hid (∃ v', SetI (w.alloc (.cells #[.int .i64 k, .string nm, .int .i64 ix, .slice A n c] 33)) base sb (insAll xs fh) v' ∧ SetStep sb v w (w.alloc (.cells #[.int .i64 k, .string nm, .int .i64 ix, .slice A n c] 33)) v') ∧ w.heap.size < (w.alloc (.cells #[.int .i64 k, .string nm, .int .i64 ix, .slice A n c] 33)).heap.size ∧ (w.alloc (.cells #[.int .i64 k, .string nm, .int .i64 ix, .slice A n c] 33)).cell? ⟨w.heap.size, 3, none⟩ = some (.slice A n c) := ⟨blk_new _ _, Lib.hid ⟨v, by rw [HF.out]; exact HS.out.step ((Below.refl _ _).alloc (Nat.le_refl _) _), SetStep.of_below ((Below.refl _ _).alloc (Nat.le_refl _) _)⟩, by simp, by simp⟩
    generalize w.alloc (.cells #[.int .i64 k, .string nm, .int .i64 ix, .slice A n c] 33) = Wz at *
    obtain ⟨hbz, HSZ, hltz, b3z⟩ := hx
    go_loopw [26] (fun i wr => ∃ j : Nat, j ≤ n ∧ i = .int .i64 j ∧ Hid (wr.heap[w.heap.size]? = some (.cells #[.int .i64 k, .string nm, .int .i64 ix, .slice A n c] 33 (0, 0))) ∧ Hid (∃ v', SetI wr base sb (insAll (insAll xs fh) (Ty.fvss k (args.take j) 0 d)) v' ∧ SetStep sb v w wr v')) (fun i _ => n - (intOf i).toNat)
    case atStart => exact ⟨0, by omega, rfl, Lib.hid hbz, HSZ⟩
    case round =>
      clear hbz HSZ hltz b3z
      obtain ⟨j, hj, rfl, HBX, HSS⟩ := hrel
      by_cases hjn : j < n
      · obtain ⟨v1, hset1, hstep1⟩ := HSS.out
        have hbel : Below B w wr := hstep1.below (by have := hset1.ge; omega) HOG.out (by omega) (by omega)
        obtain ⟨g, o, A', c', hj', rfl, hg1, hg2, c0, c1, c2, c3, ht⟩ := HV.out.at_ (KeepIn.of_below hbel (Nat.le_refl _)) hjn
        have hltw : w.heap.size < wr.heap.size := blk_lt HBX.out
        obtain ⟨b0, b1, b2, b3⟩ := cells4 HBX.out
        have hg := Ty.size_get j hj'
        have hoj := Lib.hid (Ty.ok_get HO.out j hj')
        have HT := Lib.hid ht
        clear ht
        have hbi := bindI_le k j
        have hlen : (insAll (insAll xs fh) (Ty.fvss k (args.take j) 0 d)).length + args[j].size ≤ 2 ^ 28 := by
          have e1 := insAll_len (insAll xs fh) (Ty.fvss k (args.take j) 0 d)
          have e2 := insAll_len xs fh
          have e3 := Ty.fvss_len k (args.take j) 0 d
          have e4 := Ty.sizes_take j hj'
          have e5 := Ty.sizes_take_le args (j + 1)
          omega
        have htk : Hid (insAll (insAll xs fh) (Ty.fvss k (args.take (j + 1)) 0 d) = insAll (insAll (insAll xs fh) (Ty.fvss k (args.take j) 0 d)) (args[j].fvs (d + bindI k j))) := Lib.hid (by rw [Ty.fvss_take k args 0 d j hj', insAll_append, Nat.zero_add])
        generalize args[j] = tj at *
        generalize insAll (insAll xs fh) (Ty.fvss k (args.take j) 0 d) = l2 at *
        have HW : Hid (IntKind.i64.wrap (d + bindI k j) = d + bindI k j) := Lib.hid (IntWalk.i64_in _ (by omega))
        have hsz := hstep1.size
        have HS1 := Lib.hid hset1
        have HST := Lib.hid hstep1
        have HBE := Lib.hid hbel
        clear hset1 hstep1 HSS hbel
        have hxx : Hid (∀ (W : World), W = wr.alloc (.cells #[.int .i64 tj.kind, .string tj.name, .int .i64 tj.index, .slice A' tj.args.length c'] 33) →
            W.heap[wr.heap.size]? = some (.cells #[.int .i64 tj.kind, .string tj.name, .int .i64 tj.index, .slice A' tj.args.length c'] 33 (0, 0)) ∧ W.heap[w.heap.size]? = some (.cells #[.int .i64 k, .string nm, .int .i64 ix, .slice (some ⟨g, o, none⟩) n c] 33 (0, 0)) ∧ Below wr.heap.size wr W ∧ wr.heap.size < W.heap.size) := Lib.hid (fun W hW => by
          subst hW
          exact ⟨blk_new _ _, blk_old HBX.out, (Below.refl _ _).alloc (Nat.le_refl _) _, by simp⟩)
        go_wp2
        generalize hW : wr.alloc _ = W
        obtain ⟨hx1, hx2, hbW, hltW⟩ := hxx.out W hW.symm
        obtain ⟨x0, x1, x2, x3⟩ := cells4 hx1
        obtain ⟨y0, y1, y2, y3⟩ := cells4 hx2
        have HX1 := Lib.hid hx1
        have HX2 := Lib.hid hx2
        clear hW hx1 hx2 hxx
        go_region_held3 (fun w' => w'.cell? ⟨wr.heap.size, 0, none⟩ = some (.int .i64 tj.kind) ∧ w'.cell? ⟨wr.heap.size, 1, none⟩ = some (.string tj.name) ∧ w'.cell? ⟨wr.heap.size, 2, none⟩ = some (.int .i64 tj.index) ∧ w'.cell? ⟨wr.heap.size, 3, none⟩ = some (.slice A' tj.args.length c') ∧ w'.cell? ⟨w.heap.size, 0, none⟩ = some (.int .i64 k) ∧ w'.cell? ⟨w.heap.size, 1, none⟩ = some (.string nm) ∧ w'.cell? ⟨w.heap.size, 2, none⟩ = some (.int .i64 ix) ∧ w'.cell? ⟨w.heap.size, 3, none⟩ = some (.slice (some ⟨g, o, none⟩) n c))
          (first | go_keep | (go_split_ands; refine ⟨?_, ?_, ?_, ?_, ?_, ?_, ?_, ?_⟩ <;> (first | assumption | (rw [hb1.cell (by simp; omega)]; assumption))))
          (first
            | (go_at_call 86; refine (c_tbinders _ _ _ _ _ _).mono ?_; rintro e w1 ⟨rfl, hb1⟩)
            | (go_at_call 65; rw [HW.out]; refine (IH.out tj _ l2 _ L B base sb _ v1 (by omega) (HT.out.below (hbW.trans ((Below.refl _ _).drew.trans (hb1.mono (by go_size)))) (by omega)) (by omega) hoj.out (by omega) (by omega) (((HS1.out.step hbW).step (w' := W.drew) ⟨rfl, rfl, rfl, Nat.le_refl _, fun _ _ => rfl⟩).step hb1) (by have := hb1.size; simp at this; omega) hlen).mono ?_; rintro e w2 ⟨rfl, v2, hset2, hstep2⟩
               have hy1 := (hb1.block _ (show wr.heap.size < _ from hltW)).trans HX1.out
               have hy2 := (hb1.block _ (show w.heap.size < _ by simp; omega)).trans HX2.out
               have hn1 := (((HS1.out.step hbW).step (w' := W.drew) ⟨rfl, rfl, rfl, Nat.le_refl _, fun _ _ => rfl⟩).step hb1).ne hy1 (by decide) (by decide)
               have hn2 := (((HS1.out.step hbW).step (w' := W.drew) ⟨rfl, rfl, rfl, Nat.le_refl _, fun _ _ => rfl⟩).step hb1).ne hy2 (by decide) (by decide)
               have hz1 := (hstep2.block _ (blk_lt hy1) hn1.1 hn1.2).trans hy1
               have hz2 := (hstep2.block _ (blk_lt hy2) hn2.1 hn2.2).trans hy2
               obtain ⟨z0, z1, z2, z3⟩ := cells4 hz1
               obtain ⟨z4, z5, z6, z7⟩ := cells4 hz2
               have HZ2 := Lib.hid hz2
               clear hy1 hy2 hz1 hz2))
        have HFIN : Hid (∃ v', SetI w2 base sb (insAll (insAll xs fh) (Ty.fvss k (args.take (j + 1)) 0 d)) v' ∧ SetStep sb v w w2 v') := Lib.hid ⟨v2, by rw [htk.out]; exact hset2, HST.out.trans ((SetStep.of_below (hbW.trans ((Below.refl _ _).drew.trans (hb1.mono (by go_size))))).trans hstep2)⟩
        clear hset2 hstep2 hb1 hbW z0 z1 z2 z3 z4 z5 z6 z7 x0 x1 x2 x3 y0 y1 y2 y3 hn1 hn2
        go_wp2
        go_roundw
        case rel => exact ⟨j + 1, by omega, by go_num, HZ2, HFIN⟩
        case measure => simp [intOf]; omega
      · obtain rfl : j = n := by omega
        have e := Lib.hid (List.take_of_length_le (l := args) (i := j) (by rw [Hn.out]; exact Nat.le_refl _))
        rw [e.out] at HSS
        go_wp2
        go_returns
        obtain ⟨v1, hset1, hstep1⟩ := HSS.out
        exact ⟨rfl, v1, hset1, hstep1⟩
  · have HF := Lib.hid (hfn2.out hix)
    go_enter Tryz.func65, Tryz.ntmps65
    go_wp2
    have hx : (w.alloc (.cells #[.int .i64 k, .string nm, .int .i64 ix, .slice A n c] 33)).heap[w.heap.size]? = some (.cells #[.int .i64 k, .string nm, .int .i64 ix, .slice A n c] 33 (0, 0)) ∧ Hid (∃ v', SetI (w.alloc (.cells #[.int .i64 k, .string nm, .int .i64 ix, .slice A n c] 33)) base sb (insAll xs fh) v' ∧ SetStep sb v w (w.alloc (.cells #[.int .i64 k, .string nm, .int .i64 ix, .slice A n c] 33)) v') ∧ w.heap.size < (w.alloc (.cells #[.int .i64 k, .string nm, .int .i64 ix, .slice A n c] 33)).heap.size ∧ (w.alloc (.cells #[.int .i64 k, .string nm, .int .i64 ix, .slice A n c] 33)).cell? ⟨w.heap.size, 3, none⟩ = some (.slice A n c) := ⟨blk_new _ _, Lib.hid ⟨v, by rw [HF.out]; exact HS.out.step ((Below.refl _ _).alloc (Nat.le_refl _) _), SetStep.of_below ((Below.refl _ _).alloc (Nat.le_refl _) _)⟩, by simp, by simp⟩
    generalize w.alloc (.cells #[.int .i64 k, .string nm, .int .i64 ix, .slice A n c] 33) = Wz at *
    obtain ⟨hbz, HSZ, hltz, b3z⟩ := hx
    go_loopw [26] (fun i wr => ∃ j : Nat, j ≤ n ∧ i = .int .i64 j ∧ Hid (wr.heap[w.heap.size]? = some (.cells #[.int .i64 k, .string nm, .int .i64 ix, .slice A n c] 33 (0, 0))) ∧ Hid (∃ v', SetI wr base sb (insAll (insAll xs fh) (Ty.fvss k (args.take j) 0 d)) v' ∧ SetStep sb v w wr v')) (fun i _ => n - (intOf i).toNat)
    case atStart => exact ⟨0, by omega, rfl, Lib.hid hbz, HSZ⟩
    case round =>
      clear hbz HSZ hltz b3z
      obtain ⟨j, hj, rfl, HBX, HSS⟩ := hrel
      by_cases hjn : j < n
      · obtain ⟨v1, hset1, hstep1⟩ := HSS.out
        have hbel : Below B w wr := hstep1.below (by have := hset1.ge; omega) HOG.out (by omega) (by omega)
        obtain ⟨g, o, A', c', hj', rfl, hg1, hg2, c0, c1, c2, c3, ht⟩ := HV.out.at_ (KeepIn.of_below hbel (Nat.le_refl _)) hjn
        have hltw : w.heap.size < wr.heap.size := blk_lt HBX.out
        obtain ⟨b0, b1, b2, b3⟩ := cells4 HBX.out
        have hg := Ty.size_get j hj'
        have hoj := Lib.hid (Ty.ok_get HO.out j hj')
        have HT := Lib.hid ht
        clear ht
        have hbi := bindI_le k j
        have hlen : (insAll (insAll xs fh) (Ty.fvss k (args.take j) 0 d)).length + args[j].size ≤ 2 ^ 28 := by
          have e1 := insAll_len (insAll xs fh) (Ty.fvss k (args.take j) 0 d)
          have e2 := insAll_len xs fh
          have e3 := Ty.fvss_len k (args.take j) 0 d
          have e4 := Ty.sizes_take j hj'
          have e5 := Ty.sizes_take_le args (j + 1)
          omega
        have htk : Hid (insAll (insAll xs fh) (Ty.fvss k (args.take (j + 1)) 0 d) = insAll (insAll (insAll xs fh) (Ty.fvss k (args.take j) 0 d)) (args[j].fvs (d + bindI k j))) := Lib.hid (by rw [Ty.fvss_take k args 0 d j hj', insAll_append, Nat.zero_add])
        generalize args[j] = tj at *
        generalize insAll (insAll xs fh) (Ty.fvss k (args.take j) 0 d) = l2 at *
        have HW : Hid (IntKind.i64.wrap (d + bindI k j) = d + bindI k j) := Lib.hid (IntWalk.i64_in _ (by omega))
        have hsz := hstep1.size
        have HS1 := Lib.hid hset1
        have HST := Lib.hid hstep1
        have HBE := Lib.hid hbel
        clear hset1 hstep1 HSS hbel
        have hxx : Hid (∀ (W : World), W = wr.alloc (.cells #[.int .i64 tj.kind, .string tj.name, .int .i64 tj.index, .slice A' tj.args.length c'] 33) →
            W.heap[wr.heap.size]? = some (.cells #[.int .i64 tj.kind, .string tj.name, .int .i64 tj.index, .slice A' tj.args.length c'] 33 (0, 0)) ∧ W.heap[w.heap.size]? = some (.cells #[.int .i64 k, .string nm, .int .i64 ix, .slice (some ⟨g, o, none⟩) n c] 33 (0, 0)) ∧ Below wr.heap.size wr W ∧ wr.heap.size < W.heap.size) := Lib.hid (fun W hW => by
          subst hW
          exact ⟨blk_new _ _, blk_old HBX.out, (Below.refl _ _).alloc (Nat.le_refl _) _, by simp⟩)
        go_wp2
        generalize hW : wr.alloc _ = W
        obtain ⟨hx1, hx2, hbW, hltW⟩ := hxx.out W hW.symm
        obtain ⟨x0, x1, x2, x3⟩ := cells4 hx1
        obtain ⟨y0, y1, y2, y3⟩ := cells4 hx2
        have HX1 := Lib.hid hx1
        have HX2 := Lib.hid hx2
        clear hW hx1 hx2 hxx
        go_region_held3 (fun w' => w'.cell? ⟨wr.heap.size, 0, none⟩ = some (.int .i64 tj.kind) ∧ w'.cell? ⟨wr.heap.size, 1, none⟩ = some (.string tj.name) ∧ w'.cell? ⟨wr.heap.size, 2, none⟩ = some (.int .i64 tj.index) ∧ w'.cell? ⟨wr.heap.size, 3, none⟩ = some (.slice A' tj.args.length c') ∧ w'.cell? ⟨w.heap.size, 0, none⟩ = some (.int .i64 k) ∧ w'.cell? ⟨w.heap.size, 1, none⟩ = some (.string nm) ∧ w'.cell? ⟨w.heap.size, 2, none⟩ = some (.int .i64 ix) ∧ w'.cell? ⟨w.heap.size, 3, none⟩ = some (.slice (some ⟨g, o, none⟩) n c))
          (first | go_keep | (go_split_ands; refine ⟨?_, ?_, ?_, ?_, ?_, ?_, ?_, ?_⟩ <;> (first | assumption | (rw [hb1.cell (by simp; omega)]; assumption))))
          (first
            | (go_at_call 86; refine (c_tbinders _ _ _ _ _ _).mono ?_; rintro e w1 ⟨rfl, hb1⟩)
            | (go_at_call 65; rw [HW.out]; refine (IH.out tj _ l2 _ L B base sb _ v1 (by omega) (HT.out.below (hbW.trans ((Below.refl _ _).drew.trans (hb1.mono (by go_size)))) (by omega)) (by omega) hoj.out (by omega) (by omega) (((HS1.out.step hbW).step (w' := W.drew) ⟨rfl, rfl, rfl, Nat.le_refl _, fun _ _ => rfl⟩).step hb1) (by have := hb1.size; simp at this; omega) hlen).mono ?_; rintro e w2 ⟨rfl, v2, hset2, hstep2⟩
               have hy1 := (hb1.block _ (show wr.heap.size < _ from hltW)).trans HX1.out
               have hy2 := (hb1.block _ (show w.heap.size < _ by simp; omega)).trans HX2.out
               have hn1 := (((HS1.out.step hbW).step (w' := W.drew) ⟨rfl, rfl, rfl, Nat.le_refl _, fun _ _ => rfl⟩).step hb1).ne hy1 (by decide) (by decide)
               have hn2 := (((HS1.out.step hbW).step (w' := W.drew) ⟨rfl, rfl, rfl, Nat.le_refl _, fun _ _ => rfl⟩).step hb1).ne hy2 (by decide) (by decide)
               have hz1 := (hstep2.block _ (blk_lt hy1) hn1.1 hn1.2).trans hy1
               have hz2 := (hstep2.block _ (blk_lt hy2) hn2.1 hn2.2).trans hy2
               obtain ⟨z0, z1, z2, z3⟩ := cells4 hz1
               obtain ⟨z4, z5, z6, z7⟩ := cells4 hz2
               have HZ2 := Lib.hid hz2
               clear hy1 hy2 hz1 hz2))
        have HFIN : Hid (∃ v', SetI w2 base sb (insAll (insAll xs fh) (Ty.fvss k (args.take (j + 1)) 0 d)) v' ∧ SetStep sb v w w2 v') := Lib.hid ⟨v2, by rw [htk.out]; exact hset2, HST.out.trans ((SetStep.of_below (hbW.trans ((Below.refl _ _).drew.trans (hb1.mono (by go_size))))).trans hstep2)⟩
        clear hset2 hstep2 hb1 hbW z0 z1 z2 z3 z4 z5 z6 z7 x0 x1 x2 x3 y0 y1 y2 y3 hn1 hn2
        go_wp2
        go_roundw
        case rel => exact ⟨j + 1, by omega, by go_num, HZ2, HFIN⟩
        case measure => simp [intOf]; omega
      · obtain rfl : j = n := by omega
        have e := Lib.hid (List.take_of_length_le (l := args) (i := j) (by rw [Hn.out]; exact Nat.le_refl _))
        rw [e.out] at HSS
        go_wp2
        go_returns
        obtain ⟨v1, hset1, hstep1⟩ := HSS.out
        exact ⟨rfl, v1, hset1, hstep1⟩
  · have HF := Lib.hid (hfh1.out hk5 hix)
    have HSA : Hid (∀ o : Obj, SetI (w.alloc o) base sb xs v) := Lib.hid (fun o => HS.out.step ((Below.refl _ _).alloc (Nat.le_refl _) _))
    go_enter Tryz.func65, Tryz.ntmps65
    go_wp2_with fail
    refine (c_addI base sb xs (ix - d) v _ (HSA.out _) (by omega) (by go_size) (ins_sorted _ _ HS.out.sorted)).mono ?_
    rintro e w1 ⟨rfl, v1, hset1, hstep1⟩
    have hbx0 := blk_new w (.cells #[.int .i64 k, .string nm, .int .i64 ix, .slice A n c] 33)
    have hnn := (HSA.out _).ne hbx0 (by decide) (by decide)
    have hbx := (hstep1.block _ (by simp) hnn.1 hnn.2).trans hbx0
    obtain ⟨b0, b1, b2, b3⟩ := cells4 hbx
    have HBX := Lib.hid hbx
    have HSS : Hid (∃ v', SetI w1 base sb (insAll xs fh) v' ∧ SetStep sb v w w1 v') := Lib.hid ⟨v1, by rw [HF.out]; exact hset1, (SetStep.of_below ((Below.refl _ _).alloc (Nat.le_refl _) _)).trans hstep1⟩
    have hs1 := hstep1.size
    simp at hs1
    clear hset1 hstep1 hbx0 hnn hbx
    go_wp2
    have hx : (w1).heap[w.heap.size]? = some (.cells #[.int .i64 k, .string nm, .int .i64 ix, .slice A n c] 33 (0, 0)) ∧ Hid (∃ v', SetI (w1) base sb (insAll xs fh) v' ∧ SetStep sb v w (w1) v') ∧ w.heap.size < (w1).heap.size ∧ (w1).cell? ⟨w.heap.size, 3, none⟩ = some (.slice A n c) := ⟨HBX.out, HSS, by omega, b3⟩
    generalize w1 = Wz at *
    obtain ⟨hbz, HSZ, hltz, b3z⟩ := hx
    go_loopw [26] (fun i wr => ∃ j : Nat, j ≤ n ∧ i = .int .i64 j ∧ Hid (wr.heap[w.heap.size]? = some (.cells #[.int .i64 k, .string nm, .int .i64 ix, .slice A n c] 33 (0, 0))) ∧ Hid (∃ v', SetI wr base sb (insAll (insAll xs fh) (Ty.fvss k (args.take j) 0 d)) v' ∧ SetStep sb v w wr v')) (fun i _ => n - (intOf i).toNat)
    case atStart => exact ⟨0, by omega, rfl, Lib.hid hbz, HSZ⟩
    case round =>
      clear hbz HSZ hltz b3z
      obtain ⟨j, hj, rfl, HBX, HSS⟩ := hrel
      by_cases hjn : j < n
      · obtain ⟨v1, hset1, hstep1⟩ := HSS.out
        have hbel : Below B w wr := hstep1.below (by have := hset1.ge; omega) HOG.out (by omega) (by omega)
        obtain ⟨g, o, A', c', hj', rfl, hg1, hg2, c0, c1, c2, c3, ht⟩ := HV.out.at_ (KeepIn.of_below hbel (Nat.le_refl _)) hjn
        have hltw : w.heap.size < wr.heap.size := blk_lt HBX.out
        obtain ⟨b0, b1, b2, b3⟩ := cells4 HBX.out
        have hg := Ty.size_get j hj'
        have hoj := Lib.hid (Ty.ok_get HO.out j hj')
        have HT := Lib.hid ht
        clear ht
        have hbi := bindI_le k j
        have hlen : (insAll (insAll xs fh) (Ty.fvss k (args.take j) 0 d)).length + args[j].size ≤ 2 ^ 28 := by
          have e1 := insAll_len (insAll xs fh) (Ty.fvss k (args.take j) 0 d)
          have e2 := insAll_len xs fh
          have e3 := Ty.fvss_len k (args.take j) 0 d
          have e4 := Ty.sizes_take j hj'
          have e5 := Ty.sizes_take_le args (j + 1)
          omega
        have htk : Hid (insAll (insAll xs fh) (Ty.fvss k (args.take (j + 1)) 0 d) = insAll (insAll (insAll xs fh) (Ty.fvss k (args.take j) 0 d)) (args[j].fvs (d + bindI k j))) := Lib.hid (by rw [Ty.fvss_take k args 0 d j hj', insAll_append, Nat.zero_add])
        generalize args[j] = tj at *
        generalize insAll (insAll xs fh) (Ty.fvss k (args.take j) 0 d) = l2 at *
        have HW : Hid (IntKind.i64.wrap (d + bindI k j) = d + bindI k j) := Lib.hid (IntWalk.i64_in _ (by omega))
        have hsz := hstep1.size
        have HS1 := Lib.hid hset1
        have HST := Lib.hid hstep1
        have HBE := Lib.hid hbel
        clear hset1 hstep1 HSS hbel
        have hxx : Hid (∀ (W : World), W = wr.alloc (.cells #[.int .i64 tj.kind, .string tj.name, .int .i64 tj.index, .slice A' tj.args.length c'] 33) →
            W.heap[wr.heap.size]? = some (.cells #[.int .i64 tj.kind, .string tj.name, .int .i64 tj.index, .slice A' tj.args.length c'] 33 (0, 0)) ∧ W.heap[w.heap.size]? = some (.cells #[.int .i64 k, .string nm, .int .i64 ix, .slice (some ⟨g, o, none⟩) n c] 33 (0, 0)) ∧ Below wr.heap.size wr W ∧ wr.heap.size < W.heap.size) := Lib.hid (fun W hW => by
          subst hW
          exact ⟨blk_new _ _, blk_old HBX.out, (Below.refl _ _).alloc (Nat.le_refl _) _, by simp⟩)
        go_wp2
        generalize hW : wr.alloc _ = W
        obtain ⟨hx1, hx2, hbW, hltW⟩ := hxx.out W hW.symm
        obtain ⟨x0, x1, x2, x3⟩ := cells4 hx1
        obtain ⟨y0, y1, y2, y3⟩ := cells4 hx2
        have HX1 := Lib.hid hx1
        have HX2 := Lib.hid hx2
        clear hW hx1 hx2 hxx
        go_region_held3 (fun w' => w'.cell? ⟨wr.heap.size, 0, none⟩ = some (.int .i64 tj.kind) ∧ w'.cell? ⟨wr.heap.size, 1, none⟩ = some (.string tj.name) ∧ w'.cell? ⟨wr.heap.size, 2, none⟩ = some (.int .i64 tj.index) ∧ w'.cell? ⟨wr.heap.size, 3, none⟩ = some (.slice A' tj.args.length c') ∧ w'.cell? ⟨w.heap.size, 0, none⟩ = some (.int .i64 k) ∧ w'.cell? ⟨w.heap.size, 1, none⟩ = some (.string nm) ∧ w'.cell? ⟨w.heap.size, 2, none⟩ = some (.int .i64 ix) ∧ w'.cell? ⟨w.heap.size, 3, none⟩ = some (.slice (some ⟨g, o, none⟩) n c))
          (first | go_keep | (go_split_ands; refine ⟨?_, ?_, ?_, ?_, ?_, ?_, ?_, ?_⟩ <;> (first | assumption | (rw [hb1.cell (by simp; omega)]; assumption))))
          (first
            | (go_at_call 86; refine (c_tbinders _ _ _ _ _ _).mono ?_; rintro e w1 ⟨rfl, hb1⟩)
            | (go_at_call 65; rw [HW.out]; refine (IH.out tj _ l2 _ L B base sb _ v1 (by omega) (HT.out.below (hbW.trans ((Below.refl _ _).drew.trans (hb1.mono (by go_size)))) (by omega)) (by omega) hoj.out (by omega) (by omega) (((HS1.out.step hbW).step (w' := W.drew) ⟨rfl, rfl, rfl, Nat.le_refl _, fun _ _ => rfl⟩).step hb1) (by have := hb1.size; simp at this; omega) hlen).mono ?_; rintro e w2 ⟨rfl, v2, hset2, hstep2⟩
               have hy1 := (hb1.block _ (show wr.heap.size < _ from hltW)).trans HX1.out
               have hy2 := (hb1.block _ (show w.heap.size < _ by simp; omega)).trans HX2.out
               have hn1 := (((HS1.out.step hbW).step (w' := W.drew) ⟨rfl, rfl, rfl, Nat.le_refl _, fun _ _ => rfl⟩).step hb1).ne hy1 (by decide) (by decide)
               have hn2 := (((HS1.out.step hbW).step (w' := W.drew) ⟨rfl, rfl, rfl, Nat.le_refl _, fun _ _ => rfl⟩).step hb1).ne hy2 (by decide) (by decide)
               have hz1 := (hstep2.block _ (blk_lt hy1) hn1.1 hn1.2).trans hy1
               have hz2 := (hstep2.block _ (blk_lt hy2) hn2.1 hn2.2).trans hy2
               obtain ⟨z0, z1, z2, z3⟩ := cells4 hz1
               obtain ⟨z4, z5, z6, z7⟩ := cells4 hz2
               have HZ2 := Lib.hid hz2
               clear hy1 hy2 hz1 hz2))
        have HFIN : Hid (∃ v', SetI w2 base sb (insAll (insAll xs fh) (Ty.fvss k (args.take (j + 1)) 0 d)) v' ∧ SetStep sb v w w2 v') := Lib.hid ⟨v2, by rw [htk.out]; exact hset2, HST.out.trans ((SetStep.of_below (hbW.trans ((Below.refl _ _).drew.trans (hb1.mono (by go_size))))).trans hstep2)⟩
        clear hset2 hstep2 hb1 hbW z0 z1 z2 z3 z4 z5 z6 z7 x0 x1 x2 x3 y0 y1 y2 y3 hn1 hn2
        go_wp2
        go_roundw
        case rel => exact ⟨j + 1, by omega, by go_num, HZ2, HFIN⟩
        case measure => simp [intOf]; omega
      · obtain rfl : j = n := by omega
        have e := Lib.hid (List.take_of_length_le (l := args) (i := j) (by rw [Hn.out]; exact Nat.le_refl _))
        rw [e.out] at HSS
        go_wp2
        go_returns
        obtain ⟨v1, hset1, hstep1⟩ := HSS.out
        exact ⟨rfl, v1, hset1, hstep1⟩

set_option maxHeartbeats 1000000 in
theorem c_FreeVars (t : Ty) (w : World) (L B : Nat) (v : Value) (hv : IsTy w L B t v) (hB : B ≤ w.heap.size) (hok : t.ok) (hM : t.size ≤ 2 ^ 28) :
    Calls Tryz.prog 41 #[v] w (RetInts (insAll [] (t.fvs 0)) w) := by
  have HT := Lib.hid hv
  obtain ⟨A, c, rfl, _⟩ := hv.args_
  clear hv
  have HO := Lib.hid hok; clear hok
  have hbW : Hid (∀ o o' : Obj, Below w.heap.size w ((w.alloc o).alloc o')) := Lib.hid (fun o o' => ((Below.refl _ _).alloc (Nat.le_refl _) _).alloc (by simp) _)
  have HSET : Hid (∀ o : Obj, SetI ((w.alloc o).alloc (.cells #[.slice none 0 0] 92)) w.heap.size (w.heap.size + 1) [] (.slice none 0 0)) := Lib.hid (fun o =>
    ⟨blk_new2 _ _ _, ⟨rfl, .inl ⟨rfl, rfl⟩⟩, by omega, .nil⟩)
  go_enter Tryz.func41, Tryz.ntmps41
  go_wp2_with fail
  refine (c_collectFree t.size t 0 [] _ L B w.heap.size (w.heap.size + 1) _ _ (Nat.le_refl _) (HT.out.below (hbW.out _ _) hB) hB HO.out (by omega) (by omega) (HSET.out _) (by go_size) (by simpa using hM)).mono ?_
  rintro e w1 ⟨rfl, v1, hset1, hstep1⟩
  have hb1 : Below w.heap.size w w1 := (hbW.out _ _).trans (hstep1.below (base := w.heap.size) (by omega) (by simp [Value.ownBlock]) (Nat.le_refl _) (by simp; omega))
  have hc1 : w1.cell? ⟨w.heap.size + 1, 0, none⟩ = some v1 := by rw [cell_of_row w1 _ 0 _ _ _ hset1.blk]; rfl
  have HI := Lib.hid (IsInts.own hset1.own)
  obtain ⟨A1, c1, rfl, _⟩ := HI.out
  clear hset1 hstep1
  go_wp2
  go_ret
  exact ⟨_, rfl, HI.out, hb1⟩
end Go.Proofs.YtdjldmpfginkdaaGreatDoor
namespace Go.Proofs.YtdjldmpfginkdaaGreatDoor

theorem bl_irrefl : ∀ a : List UInt8, Op.bytesLess a a = false
  | [] => rfl
  | x :: a => by simp [Op.bytesLess, bl_irrefl a]
theorem bl_trans : ∀ a b c : List UInt8, Op.bytesLess a b = true → Op.bytesLess b c = true → Op.bytesLess a c = true
  | _, [], _, h, _ => by simp [Op.bytesLess] at h
  | _, _ :: _, [], _, h => by simp [Op.bytesLess] at h
  | [], _ :: _, _ :: _, _, _ => rfl
  | x :: a, y :: b, z :: c, h1, h2 => by
    simp only [Op.bytesLess, Bool.or_eq_true, Bool.and_eq_true, decide_eq_true_eq, beq_iff_eq] at *
    rcases h1 with h1 | ⟨rfl, h1⟩
    · rcases h2 with h2 | ⟨rfl, h2⟩
      · exact .inl (UInt8.lt_trans h1 h2)
      · exact .inl h1
    · rcases h2 with h2 | ⟨rfl, h2⟩
      · exact .inl h2
      · exact .inr ⟨rfl, bl_trans a b c h1 h2⟩
theorem bl_total : ∀ a b : List UInt8, Op.bytesLess a b = true ∨ a = b ∨ Op.bytesLess b a = true
  | [], [] => .inr (.inl rfl)
  | [], _ :: _ => .inl rfl
  | _ :: _, [] => .inr (.inr rfl)
  | x :: a, y :: b => by
    simp only [Op.bytesLess, Bool.or_eq_true, Bool.and_eq_true, decide_eq_true_eq, beq_iff_eq]
    rcases UInt8.lt_or_lt_of_ne (a := x) (b := y) |> fun h => (Classical.em (x = y)).imp id h with rfl | h | h
    · rcases bl_total a b with h | rfl | h
      · exact .inl (.inr ⟨rfl, h⟩)
      · exact .inr (.inl rfl)
      · exact .inr (.inr (.inr ⟨rfl, h⟩))
    · exact .inl (.inl h)
    · exact .inr (.inr (.inl h))

theorem insS_mem (x : ByteArray) (y : ByteArray) : ∀ xs : List ByteArray, y ∈ insS x xs → y = x ∨ y ∈ xs
  | [], h => by simpa [insS] using h
  | z :: zs, h => by
    unfold insS at h
    split at h
    · rcases List.mem_cons.1 h with h | h
      · exact .inr (by simp [h])
      · rcases insS_mem x y zs h with h | h
        · exact .inl h
        · exact .inr (by simp [h])
    · split at h
      · exact .inr h
      · rcases List.mem_cons.1 h with h | h
        · exact .inl h
        · exact .inr h
theorem insS_sorted (x : ByteArray) : ∀ xs : List ByteArray, xs.Pairwise (fun a b => Op.bytesLess a.toList b.toList = true) → (insS x xs).Pairwise (fun a b => Op.bytesLess a.toList b.toList = true)
  | [], _ => by simp [insS]
  | z :: zs, h => by
    rw [List.pairwise_cons] at h
    unfold insS
    split
    · rename_i hz
      rw [List.pairwise_cons]
      refine ⟨fun y hy => ?_, insS_sorted x zs h.2⟩
      rcases insS_mem x y zs hy with rfl | hy
      · exact hz
      · exact h.1 y hy
    · split
      · rw [List.pairwise_cons]; exact h
      · rename_i h1 h2
        have hxz : Op.bytesLess x.toList z.toList = true := by
          rcases bl_total x.toList z.toList with h | h | h
          · exact h
          · exact absurd h.symm h2
          · exact absurd h h1
        rw [List.pairwise_cons]
        refine ⟨fun y hy => ?_, List.pairwise_cons.2 h⟩
        rcases List.mem_cons.1 hy with rfl | hy
        · exact hxz
        · exact bl_trans _ _ _ hxz (h.1 y hy)
def insAllS (l xs : List ByteArray) : List ByteArray := xs.foldl (fun l x => insS x l) l
theorem insAllS_append (l xs ys : List ByteArray) : insAllS l (xs ++ ys) = insAllS (insAllS l xs) ys := by simp [insAllS]
theorem insAllS_len (l xs : List ByteArray) : l.length ≤ (insAllS l xs).length ∧ (insAllS l xs).length ≤ l.length + xs.length := by
  induction xs generalizing l with
  | nil => simp [insAllS]
  | cons x xs ih =>
    have h1 := ih (insS x l)
    have h2 := insS_len x l
    simp only [insAllS, List.foldl_cons, List.length_cons] at h1 ⊢
    omega
mutual
def Ty.nms : Ty → List ByteArray
  | ⟨k, nm, _, args⟩ => (if k = 2 then [nm] else []) ++ Ty.nmss args
def Ty.nmss : List Ty → List ByteArray
  | [] => []
  | t :: ts => Ty.nms t ++ Ty.nmss ts
 end
theorem Ty.nms_eq (t : Ty) : t.nms = (if t.kind = 2 then [t.name] else []) ++ Ty.nmss t.args := by cases t; rw [Ty.nms]
theorem Ty.nmss_take (ts : List Ty) (j : Nat) (hj : j < ts.length) : Ty.nmss (ts.take (j + 1)) = Ty.nmss (ts.take j) ++ Ty.nms ts[j] := by
  induction ts generalizing j with
  | nil => simp at hj
  | cons t ts ih =>
    rcases j with _ | j
    · simp [Ty.nmss]
    · have := ih j (by simpa using hj)
      simp [Ty.nmss, this]
mutual
theorem Ty.nms_len : ∀ (t : Ty), t.nms.length ≤ t.size
  | ⟨k, _, ix, args⟩ => by
    have := Ty.nmss_len args
    rw [Ty.nms, Ty.size, List.length_append]
    split <;> simp <;> omega
theorem Ty.nmss_len : ∀ (ts : List Ty), (Ty.nmss ts).length ≤ Ty.sizes ts
  | [] => by simp [Ty.nmss]
  | t :: ts => by
    rw [Ty.nmss, Ty.sizes, List.length_append]
    have := Ty.nms_len t
    have := Ty.nmss_len ts
    omega
 end
def nmHead (k : Int) (nm : ByteArray) : List ByteArray := if k = 2 then [nm] else []
end Go.Proofs.YtdjldmpfginkdaaGreatDoor
namespace Go.Proofs.YtdjldmpfginkdaaGreatDoor

def cI (a b : Int) : Int := if a < b then -1 else if b < a then 1 else 0
def cS (a b : ByteArray) : Int := if Op.bytesLess a.toList b.toList = true then -1 else if Op.bytesLess b.toList a.toList = true then 1 else 0
def or0 (a b : Int) : Int := if a = 0 then b else a

/-- What three comparisons (a with b, b with c, a with c) tell of a total order. -/
def Tri (x y z : Int) : Prop := (x < 0 → y < 0 → z < 0) ∧ (0 < x → 0 < y → 0 < z) ∧ (x = 0 → z = y) ∧ (y = 0 → z = x)

theorem Tri.or0 {x1 y1 z1 x2 y2 z2 : Int} (h : Tri x1 y1 z1) (h2 : x1 = 0 → y1 = 0 → Tri x2 y2 z2) : Tri (or0 x1 x2) (or0 y1 y2) (or0 z1 z2) := by
  obtain ⟨a, b, c, d⟩ := h
  by_cases hx : x1 = 0
  · by_cases hy : y1 = 0
    · have hz : z1 = 0 := by rw [c hx, hy]
      have := h2 hx hy
      simpa [Proofs.YtdjldmpfginkdaaGreatDoor.or0, hx, hy, hz] using this
    · have hz : z1 = y1 := c hx
      simp only [Proofs.YtdjldmpfginkdaaGreatDoor.or0, hx, hy, hz, if_true, if_false]
      refine ⟨?_, ?_, fun _ => rfl, fun e => absurd e hy⟩ <;> intro _ h <;> exact h
  · by_cases hy : y1 = 0
    · have hz : z1 = x1 := d hy
      simp only [Proofs.YtdjldmpfginkdaaGreatDoor.or0, hx, hy, hz, if_true, if_false]
      refine ⟨?_, ?_, fun e => absurd e hx, fun _ => rfl⟩ <;> intro h _ <;> exact h
    · simp only [Proofs.YtdjldmpfginkdaaGreatDoor.or0, hx, hy, if_false]
      by_cases hz : z1 = 0
      · simp only [hz, if_true]
        refine ⟨fun h1 h2 => ?_, fun h1 h2 => ?_, fun e => absurd e hx, fun e => absurd e hy⟩
        · have := a h1 h2; omega
        · have := b h1 h2; omega
      · simp only [hz, if_false]
        exact ⟨a, b, c, d⟩
theorem cI_tri (a b c : Int) : Tri (cI a b) (cI b c) (cI a c) := by
  unfold Tri cI
  refine ⟨?_, ?_, ?_, ?_⟩ <;> (repeat' split) <;> omega
theorem cI_neg (a b : Int) : cI b a = -cI a b := by unfold cI; (repeat' split) <;> omega
theorem cI_zero (a b : Int) : cI a b = 0 ↔ a = b := by unfold cI; (repeat' split) <;> omega
theorem cI_in (a b : Int) : -1 ≤ cI a b ∧ cI a b ≤ 1 := by unfold cI; (repeat' split) <;> omega

theorem bl_asymm {a b : List UInt8} (h : Op.bytesLess a b = true) : Op.bytesLess b a = false := by
  rcases hb : Op.bytesLess b a with _ | _
  · rfl
  · have := bl_trans _ _ _ h hb
    rw [bl_irrefl] at this
    cases this
theorem cS_cases (a b : ByteArray) : (cS a b = -1 ∧ Op.bytesLess a.toList b.toList = true) ∨ (cS a b = 0 ∧ a.toList = b.toList) ∨ (cS a b = 1 ∧ Op.bytesLess b.toList a.toList = true) := by
  unfold cS
  rcases bl_total a.toList b.toList with h | h | h
  · exact .inl ⟨by rw [if_pos h], h⟩
  · refine .inr (.inl ⟨?_, h⟩)
    rw [h, bl_irrefl]; simp
  · refine .inr (.inr ⟨?_, h⟩)
    rw [bl_asymm h, h]; simp
theorem cS_lt {a b : ByteArray} (h : Op.bytesLess a.toList b.toList = true) : cS a b = -1 := by unfold cS; rw [if_pos h]
theorem cS_gt {a b : ByteArray} (h : Op.bytesLess b.toList a.toList = true) : cS a b = 1 := by unfold cS; rw [bl_asymm h, h]; simp
theorem cS_eq {a b : ByteArray} (h : a.toList = b.toList) : cS a b = 0 := by unfold cS; rw [h, bl_irrefl]; simp
theorem cS_tri (a b c : ByteArray) : Tri (cS a b) (cS b c) (cS a c) := by
  rcases cS_cases a b with ⟨e1, h1⟩ | ⟨e1, h1⟩ | ⟨e1, h1⟩ <;> rcases cS_cases b c with ⟨e2, h2⟩ | ⟨e2, h2⟩ | ⟨e2, h2⟩
  · rw [e1, e2, cS_lt (bl_trans _ _ _ h1 h2)]; unfold Tri; omega
  · rw [e1, e2, cS_lt (by rw [← h2]; exact h1)]; unfold Tri; omega
  · rw [e1, e2]; unfold Tri; omega
  · rw [e1, e2, cS_lt (by rw [h1]; exact h2)]; unfold Tri; omega
  · rw [e1, e2, cS_eq (h1.trans h2)]; unfold Tri; omega
  · rw [e1, e2, cS_gt (by rw [h1]; exact h2)]; unfold Tri; omega
  · rw [e1, e2]; unfold Tri; omega
  · rw [e1, e2, cS_gt (by rw [← h2]; exact h1)]; unfold Tri; omega
  · rw [e1, e2, cS_gt (bl_trans _ _ _ h2 h1)]; unfold Tri; omega
theorem cS_neg (a b : ByteArray) : cS b a = -cS a b := by
  rcases cS_cases a b with ⟨e1, h1⟩ | ⟨e1, h1⟩ | ⟨e1, h1⟩
  · rw [e1, cS_gt h1]; rfl
  · rw [e1, cS_eq h1.symm]; rfl
  · rw [e1, cS_lt h1]
theorem cS_in (a b : ByteArray) : -1 ≤ cS a b ∧ cS a b ≤ 1 := by
  rcases cS_cases a b with ⟨e1, h1⟩ | ⟨e1, h1⟩ | ⟨e1, h1⟩ <;> omega
theorem or0_neg {a b c d : Int} (h1 : b = -a) (h2 : d = -c) : or0 b d = -or0 a c := by
  unfold or0; split <;> split <;> omega
theorem or0_in {a b : Int} (h1 : -1 ≤ a ∧ a ≤ 1) (h2 : -1 ≤ b ∧ b ≤ 1) : -1 ≤ or0 a b ∧ or0 a b ≤ 1 := by
  unfold or0; split <;> omega
theorem or0_zero (a b : Int) : or0 a b = 0 ↔ a = 0 ∧ b = 0 := by
  unfold or0; split
  · simp [*]
  · simp [*]
theorem or0_assoc (a b c : Int) : or0 (or0 a b) c = or0 a (or0 b c) := by
  unfold or0
  by_cases h : a = 0 <;> simp [h]

/-- The comparison of two roots. -/
def hd4 (k : Int) (n : ByteArray) (i : Int) (l : Nat) (k' : Int) (n' : ByteArray) (i' : Int) (l' : Nat) : Int := or0 (cI k k') (or0 (cS n n') (or0 (cI i i') (cI l l')))
mutual
def Ty.cmp : Ty → Ty → Int
  | ⟨k, n, i, xs⟩, b => or0 (hd4 k n i xs.length b.kind b.name b.index b.args.length) (Ty.cmps xs b.args)
def Ty.cmps : List Ty → List Ty → Int
  | [], _ => 0
  | _ :: _, [] => 0
  | a :: xs, b :: ys => or0 (Ty.cmp a b) (Ty.cmps xs ys)
 end
def Ty.hd (a b : Ty) : Int := hd4 a.kind a.name a.index a.args.length b.kind b.name b.index b.args.length
theorem Ty.cmp_eq (a b : Ty) : a.cmp b = or0 (a.hd b) (Ty.cmps a.args b.args) := by cases a; rw [Ty.cmp]; rfl
theorem Ty.hd_len {a b : Ty} (h : a.hd b = 0) : a.args.length = b.args.length := by
  unfold Ty.hd hd4 at h
  simp only [or0_zero, cI_zero] at h
  have := h.2.2.2
  omega
theorem Ty.hd_tri (a b c : Ty) : Tri (a.hd b) (b.hd c) (a.hd c) := by
  unfold Ty.hd hd4
  exact (cI_tri _ _ _).or0 fun _ _ => (cS_tri _ _ _).or0 fun _ _ => (cI_tri _ _ _).or0 fun _ _ => cI_tri _ _ _
theorem Ty.hd_neg (a b : Ty) : b.hd a = -a.hd b := by
  unfold Ty.hd hd4
  exact or0_neg (cI_neg _ _) (or0_neg (cS_neg _ _) (or0_neg (cI_neg _ _) (cI_neg _ _)))
theorem Ty.hd_in (a b : Ty) : -1 ≤ a.hd b ∧ a.hd b ≤ 1 := by
  unfold Ty.hd hd4
  exact or0_in (cI_in _ _) (or0_in (cS_in _ _) (or0_in (cI_in _ _) (cI_in _ _)))
mutual
theorem Ty.cmp_tri : ∀ a b c : Ty, Tri (a.cmp b) (b.cmp c) (a.cmp c)
  | ⟨k, n, i, xs⟩, b, c => by
    rw [Ty.cmp_eq, Ty.cmp_eq, Ty.cmp_eq]
    exact (Ty.hd_tri _ _ _).or0 fun h1 h2 => Ty.cmps_tri xs b.args c.args (Ty.hd_len h1) (Ty.hd_len h2)
theorem Ty.cmps_tri : ∀ a b c : List Ty, a.length = b.length → b.length = c.length → Tri (Ty.cmps a b) (Ty.cmps b c) (Ty.cmps a c)
  | [], [], [], _, _ => by unfold Ty.cmps Tri; omega
  | a :: xs, b :: ys, c :: zs, h1, h2 => by
    rw [Ty.cmps, Ty.cmps, Ty.cmps]
    exact (Ty.cmp_tri a b c).or0 fun _ _ => Ty.cmps_tri xs ys zs (by simpa using h1) (by simpa using h2)
  | [], _ :: _, _, h, _ => by simp at h
  | _ :: _, [], _, h, _ => by simp at h
  | [], [], _ :: _, _, h => by simp at h
  | _ :: _, _ :: _, [], _, h => by simp at h
 end
mutual
theorem Ty.cmp_neg : ∀ a b : Ty, b.cmp a = -a.cmp b
  | ⟨k, n, i, xs⟩, ⟨k', n', i', ys⟩ => by
    rw [Ty.cmp_eq, Ty.cmp_eq]
    exact or0_neg (Ty.hd_neg _ _) (Ty.cmps_neg xs ys)
theorem Ty.cmps_neg : ∀ a b : List Ty, Ty.cmps b a = -Ty.cmps a b
  | [], [] => by unfold Ty.cmps; rfl
  | a :: xs, b :: ys => by
    rw [Ty.cmps, Ty.cmps]
    exact or0_neg (Ty.cmp_neg a b) (Ty.cmps_neg xs ys)
  | [], _ :: _ => by unfold Ty.cmps; rfl
  | _ :: _, [] => by unfold Ty.cmps; rfl
 end
mutual
theorem Ty.cmp_in : ∀ a b : Ty, -1 ≤ a.cmp b ∧ a.cmp b ≤ 1
  | ⟨k, n, i, xs⟩, b => by
    rw [Ty.cmp_eq]
    exact or0_in (Ty.hd_in _ _) (Ty.cmps_in xs b.args)
theorem Ty.cmps_in : ∀ a b : List Ty, -1 ≤ Ty.cmps a b ∧ Ty.cmps a b ≤ 1
  | [], _ => by unfold Ty.cmps; omega
  | a :: xs, b :: ys => by
    rw [Ty.cmps]
    exact or0_in (Ty.cmp_in a b) (Ty.cmps_in xs ys)
  | _ :: _, [] => by unfold Ty.cmps; omega
 end
theorem Ty.cmp_self (a : Ty) : a.cmp a = 0 := by have := Ty.cmp_neg a a; omega
theorem Ty.cmps_take (xs ys : List Ty) (j : Nat) (h1 : j < xs.length) (h2 : j < ys.length) : Ty.cmps (xs.take (j + 1)) (ys.take (j + 1)) = or0 (Ty.cmps (xs.take j) (ys.take j)) (xs[j].cmp ys[j]) := by
  induction xs generalizing ys j with
  | nil => simp at h1
  | cons a xs ih =>
    rcases ys with _ | ⟨b, ys⟩
    · simp at h2
    rcases j with _ | j
    · simp [Ty.cmps, or0]
      exact fun h => h.symm
    · have := ih ys j (by simpa using h1) (by simpa using h2)
      simp only [List.take_succ_cons, Ty.cmps, List.getElem_cons_succ]
      rw [this, or0_assoc]
theorem Ty.cmps_stop (xs ys : List Ty) (j : Nat) (h : Ty.cmps (xs.take j) (ys.take j) ≠ 0) : Ty.cmps xs ys = Ty.cmps (xs.take j) (ys.take j) := by
  induction xs generalizing ys j with
  | nil => simp [Ty.cmps] at h
  | cons a xs ih =>
    rcases ys with _ | ⟨b, ys⟩
    · simp at h
      rcases j with _ | j <;> simp [Ty.cmps] at h
    rcases j with _ | j
    · simp [Ty.cmps] at h
    · simp only [List.take_succ_cons, Ty.cmps] at h ⊢
      by_cases hc : a.cmp b = 0
      · simp only [or0, hc, if_true] at h ⊢
        exact ih ys j h
      · simp [or0, hc]
/-- The loop's invariant: behind j rounds. -/
def Ty.cmpTo (a b : Ty) (j : Nat) : Int := or0 (a.hd b) (Ty.cmps (a.args.take j) (b.args.take j))
theorem Ty.cmpTo_zero (a b : Ty) : a.cmpTo b 0 = a.hd b := by unfold Ty.cmpTo or0; split <;> simp [Ty.cmps, *]
theorem Ty.cmpTo_succ (a b : Ty) (j : Nat) (h : a.cmpTo b j = 0) (h1 : j < a.args.length) (h2 : j < b.args.length) : a.cmpTo b (j + 1) = a.args[j].cmp b.args[j] := by
  unfold Ty.cmpTo at h ⊢
  obtain ⟨e1, e2⟩ := (or0_zero _ _).1 h
  rw [Ty.cmps_take _ _ _ h1 h2, e2, e1]
  simp [or0]
theorem Ty.cmpTo_stop (a b : Ty) (j : Nat) (h : a.cmpTo b j ≠ 0) : a.cmp b = a.cmpTo b j := by
  rw [Ty.cmp_eq]
  unfold Ty.cmpTo at h ⊢
  by_cases hh : a.hd b = 0
  · simp only [or0, hh, if_true] at h ⊢
    exact Ty.cmps_stop _ _ _ h
  · simp [or0, hh]
theorem Ty.cmpTo_len (a b : Ty) (j : Nat) (h : a.cmpTo b j = 0) : a.args.length = b.args.length := Ty.hd_len ((or0_zero _ _).1 h).1
theorem Ty.cmpTo_end (a b : Ty) (h : a.cmpTo b a.args.length = 0) : a.cmp b = 0 := by
  have hl := Ty.cmpTo_len a b _ h
  rw [Ty.cmp_eq]
  unfold Ty.cmpTo at h
  rw [List.take_length, hl, List.take_length] at h
  exact h
theorem Ty.cmpTo_in (a b : Ty) (j : Nat) : -1 ≤ a.cmpTo b j ∧ a.cmpTo b j ≤ 1 := or0_in (Ty.hd_in _ _) (Ty.cmps_in _ _)
/-- The law's last line. -/
theorem Ty.order_law (a b c : Ty) : ((0 < a.cmp b ∨ 0 < b.cmp c) ∨ a.cmp c ≤ 0) ∧ ((a.cmp b < 0 ∨ b.cmp c < 0) ∨ 0 ≤ a.cmp c) := by
  obtain ⟨h1, h2, h3, h4⟩ := Ty.cmp_tri a b c
  omega
end Go.Proofs.YtdjldmpfginkdaaGreatDoor
namespace Go.Proofs.YtdjldmpfginkdaaGreatDoor
open Go.RowKit
attribute [local go_sem ↓] Go.wp_at_zero Go.wp_at_succ

set_option maxHeartbeats 400000 in
theorem c_nanI (x : Int) (w : World) : Calls Tryz.prog 112 #[.int .i64 x] w fun e w' => e = .returned (.bool false) ∧ w' = w := by
  go_enter Tryz.func112, Tryz.ntmps112
  go_wp2
  go_ret
  exact ⟨rfl, rfl⟩
set_option maxHeartbeats 400000 in
theorem c_nanS (x : ByteArray) (w : World) : Calls Tryz.prog 113 #[.string x] w fun e w' => e = .returned (.bool false) ∧ w' = w := by
  go_enter Tryz.func113, Tryz.ntmps113
  go_wp2
  go_ret
  exact ⟨by simp, rfl⟩
set_option maxHeartbeats 1000000 in
theorem c_cmpI (x y : Int) (w : World) : Calls Tryz.prog 88 #[.int .i64 x, .int .i64 y] w fun e w' => e = .returned (.int .i64 (cI x y)) ∧ w' = w := by
  have hz : Hid (cI x y = if x < y then -1 else if y < x then 1 else 0) := Lib.hid rfl
  generalize cI x y = r at *
  go_enter Tryz.func88, Tryz.ntmps88
  go_wp2_with (first
    | (go_at_call 112; refine (c_nanI _ _).mono ?_; rintro e w' ⟨rfl, rfl⟩))
  all_goals
    go_ret
    refine ⟨ret_int ?_, rfl⟩
    rw [hz.out]
    (repeat' split) <;> omega
set_option maxHeartbeats 1000000 in
theorem c_cmpS (x y : ByteArray) (w : World) : Calls Tryz.prog 89 #[.string x, .string y] w fun e w' => e = .returned (.int .i64 (cS x y)) ∧ w' = w := by
  have HC := Lib.hid (cS_cases x y)
  have HA : Hid (Op.bytesLess y.toList x.toList = true → Op.bytesLess x.toList y.toList = false) := Lib.hid bl_asymm
  have HI := Lib.hid (bl_irrefl x.toList)
  generalize cS x y = r at *
  go_enter Tryz.func89, Tryz.ntmps89
  go_wp2_with (first
    | (go_at_call 113; refine (c_nanS _ _).mono ?_; rintro e w' ⟨rfl, rfl⟩))
  all_goals
    go_ret
    refine ⟨ret_int ?_, rfl⟩
    rename_i hs
    have hA := HA.out
    have hI := HI.out
    rcases HC.out with ⟨e, h⟩ | ⟨e, h⟩ | ⟨e, h⟩
    all_goals first | exact e.symm | (exfalso; simp_all; done)
def orL : List Int → Int
  | [] => 0
  | x :: xs => or0 x (orL xs)
theorem orL_at (zs : List Int) (j : Nat) (hj : j < zs.length) (h0 : ∀ (i : Nat) (hi : i < zs.length), i < j → zs[i] = 0) (h : zs[j] ≠ 0) : orL zs = zs[j] := by
  induction zs generalizing j with
  | nil => simp at hj
  | cons z zs ih =>
    rcases j with _ | j
    · have h' : z ≠ 0 := h
      simp [orL, or0, h']
    · have hz : z = 0 := h0 0 (by simp) (by omega)
      simp only [orL, or0, hz, if_true, List.getElem_cons_succ]
      exact ih j (by simpa using hj) (fun i hi hij => h0 (i + 1) (by simpa using hi) (by omega)) h
theorem orL_zero (zs : List Int) (h0 : ∀ (i : Nat) (hi : i < zs.length), zs[i] = 0) : orL zs = 0 := by
  induction zs with
  | nil => rfl
  | cons z zs ih =>
    have hz : z = 0 := h0 0 (by simp)
    simp only [orL, or0, hz, if_true]
    exact ih fun i hi => h0 (i + 1) (by simpa using hi)
set_option maxHeartbeats 1000000 in
theorem c_Or (zs : List Int) (v : Value) (w : World) (B : Nat) (hv : IsInts w B zs v) (hn : zs.length ≤ 2 ^ 40) : Calls Tryz.prog 87 #[v] w fun e w' => e = .returned (.int .i64 (orL zs)) ∧ w' = w := by
  obtain ⟨A, c, rfl, hc, hm, _, _, hr⟩ := hv
  have HR := Lib.hid hr; clear hr
  generalize hl : zs.length = n at *
  have Hn := Lib.hid hl; clear hl
  clear hm
  go_enter Tryz.func87, Tryz.ntmps87
  go_wp2
  go_loop [8] (fun i => ∃ j : Nat, j ≤ n ∧ i = .int .i64 j ∧ Hid (∀ (i : Nat) (hi : i < zs.length), i < j → zs[i] = 0)) (fun i => n - (intOf i).toNat)
  case atStart => exact ⟨0, by omega, rfl, Lib.hid (fun _ _ h => by omega)⟩
  case round =>
    obtain ⟨j, hj, rfl, hall⟩ := hrel
    by_cases hjn : j < n
    · obtain ⟨g, o, hj1, rfl, hg, hcell⟩ := HR.out.at_ (j := j) (by omega)
      rw [ints_get] at hcell
      have hj' : j < zs.length := by rw [Hn.out]; exact hjn
      have hfalse : Hid (zs[j] ≠ 0 → orL zs = zs[j]) := Lib.hid (orL_at zs j hj' hall.out)
      have htrue : Hid (zs[j] = 0 → ∀ (i : Nat) (hi : i < zs.length), i < j + 1 → zs[i] = 0) := Lib.hid (fun h i hi hij => by
        rcases Nat.lt_or_ge i j with h1 | h1
        · exact hall.out i hi h1
        · obtain rfl : i = j := by omega
          exact h)
      generalize zs[j] = y at *
      by_cases hr : y = 0
      · have hz := Lib.hid (htrue.out hr)
        subst hr
        go_wp2
        go_round
        case rel => exact ⟨j + 1, by omega, by go_num, hz⟩
        case measure => simp [intOf]; omega
      · have hz := Lib.hid (hfalse.out hr)
        have hr' : (y == 0) = false := by rw [beq_eq_false_iff_ne]; exact hr
        go_wp2
        go_ret
        exact ⟨ret_int (by rw [hz.out]), rfl⟩
    · obtain rfl : j = n := by omega
      have hz : Hid (orL zs = 0) := Lib.hid (orL_zero zs fun i hi => hall.out i hi (by rw [← Hn.out]; exact hi))
      go_wp2
      go_ret
      exact ⟨ret_int (by rw [hz.out]), rfl⟩
end Go.Proofs.YtdjldmpfginkdaaGreatDoor
namespace Go.Proofs.YtdjldmpfginkdaaGreatDoor
open Go.RowKit
attribute [local go_sem ↓] Go.wp_at_zero Go.wp_at_succ

theorem four_ints (W : World) (a b c d : Int) : IsInts (W.alloc (.cells #[.int .i64 a, .int .i64 b, .int .i64 c, .int .i64 d] 3)) (W.heap.size + 1) [a, b, c, d] (.slice (some ⟨W.heap.size, 0, none⟩) 4 4) :=
  ⟨_, 4, rfl, by simp, by decide, fun h => (by cases h), fun a ha _ => (by cases ha; rfl), Rd.blk (cs := #[.int .i64 a, .int .i64 b, .int .i64 c, .int .i64 d]) (blk_new _ _) rfl (by omega)⟩

theorem cI_ne {a b : Int} (h : ¬ a = b) : cI a b = if decide (a < b) = true then -1 else 1 := by unfold cI; simp only [decide_eq_true_eq]; (repeat' split) <;> omega
theorem cS_ne {a b : ByteArray} (h : ¬ a.toList = b.toList) : cS a b = if Op.bytesLess a.toList b.toList = true then -1 else 1 := by
  rcases cS_cases a b with ⟨e, h1⟩ | ⟨e, h1⟩ | ⟨e, h1⟩
  · rw [e, if_pos h1]
  · exact absurd h1 h
  · rw [e, if_neg (by rw [bl_asymm h1]; decide)]
theorem or0_ne {a b c : Int} (h : a = c) (hc : ¬ c = 0) : or0 a b = c := by unfold or0; rw [h, if_neg hc]
theorem or0_eq {a b c : Int} (h : a = 0) (hb : b = c) : or0 a b = c := by unfold or0; rw [h, if_pos rfl, hb]
theorem pm_ne (b : Bool) : ¬ (if b = true then (-1 : Int) else 1) = 0 := by cases b <;> decide
theorem Ty.cmp_k {a b : Ty} (h : ¬ a.kind = b.kind) : a.cmp b = if decide (a.kind < b.kind) = true then -1 else 1 := by
  rw [Ty.cmp_eq]; unfold Ty.hd hd4
  exact or0_ne (or0_ne (cI_ne h) (pm_ne _)) (pm_ne _)
theorem Ty.cmp_n {a b : Ty} (h1 : a.kind = b.kind) (h : ¬ a.name.toList = b.name.toList) : a.cmp b = if Op.bytesLess a.name.toList b.name.toList = true then -1 else 1 := by
  rw [Ty.cmp_eq]; unfold Ty.hd hd4
  exact or0_ne (or0_eq ((cI_zero _ _).2 h1) (or0_ne (cS_ne h) (pm_ne _))) (pm_ne _)
theorem Ty.cmp_i {a b : Ty} (h1 : a.kind = b.kind) (h2 : a.name.toList = b.name.toList) (h : ¬ a.index = b.index) : a.cmp b = if decide (a.index < b.index) = true then -1 else 1 := by
  rw [Ty.cmp_eq]; unfold Ty.hd hd4
  exact or0_ne (or0_eq ((cI_zero _ _).2 h1) (or0_eq (cS_eq h2) (or0_ne (cI_ne h) (pm_ne _)))) (pm_ne _)
theorem Ty.cmp_l {a b : Ty} (h1 : a.kind = b.kind) (h2 : a.name.toList = b.name.toList) (h3 : a.index = b.index) (h : ¬ (a.args.length : Int) = b.args.length) : a.cmp b = if decide ((a.args.length : Int) < b.args.length) = true then -1 else 1 := by
  rw [Ty.cmp_eq]; unfold Ty.hd hd4
  exact or0_ne (or0_eq ((cI_zero _ _).2 h1) (or0_eq (cS_eq h2) (or0_eq ((cI_zero _ _).2 h3) (cI_ne h)))) (pm_ne _)
theorem Ty.cmp_0 {a b : Ty} (h1 : a.kind = b.kind) (h2 : a.name.toList = b.name.toList) (h3 : a.index = b.index) (h : (a.args.length : Int) = b.args.length) : a.cmpTo b 0 = 0 := by
  rw [Ty.cmpTo_zero]; unfold Ty.hd hd4
  exact or0_eq ((cI_zero _ _).2 h1) (or0_eq (cS_eq h2) (or0_eq ((cI_zero _ _).2 h3) ((cI_zero _ _).2 h)))



set_option maxHeartbeats 4000000 in
theorem c_Compare (N : Nat) : ∀ (a b : Ty) (w : World) (La Ba Lb Bb : Nat) (va vb : Value), a.size ≤ N → IsTy w La Ba a va → IsTy w Lb Bb b vb → Ba ≤ w.heap.size → Bb ≤ w.heap.size → a.size ≤ 2 ^ 60 →
    Calls Tryz.prog 66 #[va, vb] w fun e w' => e = .returned (.int .i64 (a.cmp b)) ∧ Below w.heap.size w w' := by
  induction N with
  | zero => intro a b w _ _ _ _ _ _ h; have := a.size_pos; omega
  | succ N ih =>
  intro a b w La Ba Lb Bb va vb hN hta htb hBa hBb hM
  obtain ⟨A1, c1, rfl, hva⟩ := hta.args_
  obtain ⟨A2, c2, rfl, hvb⟩ := htb.args_
  clear hta htb
  have hsz := a.size_eq
  have hl := Ty.len_le a.args
  have HSG : Hid (∀ (j : Nat) (x : Ty), a.args[j]? = some x → x.size ≤ Ty.sizes a.args) := Lib.hid (fun j x hx => by obtain ⟨h, rfl⟩ := List.getElem?_eq_some_iff.1 hx; exact Ty.size_get j h)
  have HS : Hid (∀ (j : Nat), a.cmpTo b j = 0 → ∀ x y : Ty, a.args[j]? = some x → b.args[j]? = some y → a.cmpTo b (j + 1) = x.cmp y) := Lib.hid (fun j h x y hx hy => by obtain ⟨h1, rfl⟩ := List.getElem?_eq_some_iff.1 hx; obtain ⟨h2, rfl⟩ := List.getElem?_eq_some_iff.1 hy; exact Ty.cmpTo_succ a b j h h1 h2)
  have HST := Lib.hid (Ty.cmpTo_stop a b)
  have HEND := Lib.hid (Ty.cmpTo_end a b)
  have HLEN := Lib.hid (Ty.cmpTo_len a b)
  have H0 : Hid (orL [cI a.kind b.kind, cS a.name b.name, cI a.index b.index, cI a.args.length b.args.length] = a.cmpTo b 0) := Lib.hid (by rw [Ty.cmpTo_zero]; unfold Ty.hd hd4; simp only [orL]; congr 1; congr 1; congr 1; unfold or0; split <;> simp [*])
  have HK := Lib.hid (@Ty.cmp_k a b)
  have HNM := Lib.hid (@Ty.cmp_n a b)
  have HIX := Lib.hid (@Ty.cmp_i a b)
  have HLN := Lib.hid (@Ty.cmp_l a b)
  have HZ := Lib.hid (@Ty.cmp_0 a b)
  have HVA := Lib.hid hva
  have HVB := Lib.hid hvb
  have IH := Lib.hid ih
  clear ih hva hvb
  generalize a.cmp b = res, a.cmpTo b = CT at *
  generalize a.kind = ka, a.name = na, a.index = ia, b.kind = kb, b.name = nb, b.index = ib at *
  generalize a.args = xa, b.args = xb at *
  generalize hla : xa.length = n at *
  generalize hlb : xb.length = m at *
  have HLA := Lib.hid hla
  have HLB := Lib.hid hlb
  clear hla hlb
  have HBX := Lib.hid (box_alloc2 w (.int .i64 ka) (.string na) (.int .i64 ia) (.slice A1 n c1) (.int .i64 kb) (.string nb) (.int .i64 ib) (.slice A2 m c2) 33)
  have hbW : Below w.heap.size w ((w.alloc (.cells #[.int .i64 ka, .string na, .int .i64 ia, .slice A1 n c1] 33)).alloc (.cells #[.int .i64 kb, .string nb, .int .i64 ib, .slice A2 m c2] 33)) := below_step (below_new _ _) (below_new _ _)
  have hlt1 : w.heap.size + 1 < ((w.alloc (.cells #[.int .i64 ka, .string na, .int .i64 ia, .slice A1 n c1] 33)).alloc (.cells #[.int .i64 kb, .string nb, .int .i64 ib, .slice A2 m c2] 33)).heap.size := by simp
  have hx0 : Hid (∀ W : World, W = ((w.alloc (.cells #[.int .i64 ka, .string na, .int .i64 ia, .slice A1 n c1] 33)).alloc (.cells #[.int .i64 kb, .string nb, .int .i64 ib, .slice A2 m c2] 33)) → (W.cell? ⟨w.heap.size, 0, none⟩ = some (.int .i64 ka) ∧ W.cell? ⟨w.heap.size, 1, none⟩ = some (.string na) ∧ W.cell? ⟨w.heap.size, 2, none⟩ = some (.int .i64 ia) ∧ W.cell? ⟨w.heap.size, 3, none⟩ = some (.slice A1 n c1)) ∧ (W.cell? ⟨w.heap.size + 1, 0, none⟩ = some (.int .i64 kb) ∧ W.cell? ⟨w.heap.size + 1, 1, none⟩ = some (.string nb) ∧ W.cell? ⟨w.heap.size + 1, 2, none⟩ = some (.int .i64 ib) ∧ W.cell? ⟨w.heap.size + 1, 3, none⟩ = some (.slice A2 m c2)) ∧ Below w.heap.size w W ∧ w.heap.size + 1 < W.heap.size) := Lib.hid (fun W hW => by subst hW; exact ⟨HBX.out.1, HBX.out.2, hbW, hlt1⟩)
  clear hbW hlt1 HBX
  go_enter Tryz.func66, Tryz.ntmps66
  go_wp2
  generalize hW : (w.alloc _).alloc _ = W
  obtain ⟨hb1, hb2, hbW, hlW⟩ := hx0.out W hW.symm
  clear hx0 hW
  have SK := Lib.hid (box_sk2 hb1 hb2 (by omega) hlW)
  clear hb1 hb2
  go_region_held3 (fun W' : World => Below W.heap.size W W' ∧ (W'.cell? ⟨w.heap.size, 0, none⟩ = some (.int .i64 ka) ∧ W'.cell? ⟨w.heap.size, 1, none⟩ = some (.string na) ∧ W'.cell? ⟨w.heap.size, 2, none⟩ = some (.int .i64 ia) ∧ W'.cell? ⟨w.heap.size, 3, none⟩ = some (.slice A1 n c1)) ∧ (W'.cell? ⟨w.heap.size + 1, 0, none⟩ = some (.int .i64 kb) ∧ W'.cell? ⟨w.heap.size + 1, 1, none⟩ = some (.string nb) ∧ W'.cell? ⟨w.heap.size + 1, 2, none⟩ = some (.int .i64 ib) ∧ W'.cell? ⟨w.heap.size + 1, 3, none⟩ = some (.slice A2 m c2)))
    (first | exact SK.out _ (below_drew _) | assumption | exact SK.out _ (below_step (And.left (by assumption)) (below_new _ _)))
    (first
    | (go_at_call 88; refine (c_cmpI _ _ _).mono ?_; rintro e w' ⟨rfl, rfl⟩)
    | (go_at_call 89; refine (c_cmpS _ _ _).mono ?_; rintro e w' ⟨rfl, rfl⟩)
    | (go_at_call 87; refine (c_Or [cI ka kb, cS na nb, cI ia ib, cI n m] _ _ (W.heap.size + 1) ?hh ?hn).mono ?_; (case hh => exact four_ints _ _ _ _ _); (case hn => simp); rintro e w' ⟨rfl, rfl⟩))
  go_wp2
  rw [H0.out]
  go_loopw [5, 6] (fun s5 s6 wr => ∃ j : Nat, j ≤ n ∧ s6 = .int .i64 j ∧ s5 = .int .i64 (CT j) ∧ Below W.heap.size W wr) (fun _ i _ => n - (intOf i).toNat)
  case atStart => exact ⟨0, by omega, rfl, rfl, below_step (below_new _ _) (below_drew _)⟩
  case round =>
    obtain ⟨j, hj, rfl, rfl, hbr⟩ := hrel
    have hbw : Below w.heap.size w wr := hbW.trans (hbr.mono hbW.size)
    obtain ⟨_, ⟨_, _, _, x3⟩, _, _, _, y3⟩ := SK.out wr hbr
    have hsr := hbr.size
    by_cases hc : CT j = 0
    · have hc' : (CT j == 0) = true := by rw [hc]; rfl
      have hnm := HLEN.out j hc
      by_cases hjn : j < n
      · skip
        obtain ⟨g1, o1, A1', c1', hj1, rfl, hg1a, hg1b, k0, k1, k2, k3, ht1⟩ := HVA.out.at_ (KeepIn.of_below hbw hBa) hjn
        obtain ⟨g2, o2, A2', c2', hj2, rfl, hg2a, hg2b, l0, l1, l2, l3, ht2⟩ := HVB.out.at_ (KeepIn.of_below hbw hBb) (j := j) (by omega)
        have hsg := HSG.out j _ (List.getElem?_eq_getElem hj1)
        have HT1 := Lib.hid ht1
        have HT2 := Lib.hid ht2
        clear ht1 ht2
        have hz : True := trivial
        have hcm := Lib.hid (HS.out j hc _ _ (List.getElem?_eq_getElem hj1) (List.getElem?_eq_getElem hj2))
        generalize xa[j] = ta, xb[j] = tb at *
        have hj0 : (0 : Int) ≤ (j : Int) := by omega
        have hjn1 : (j : Int) < (n : Int) := by omega
        have hjm1 : (j : Int) < (m : Int) := by omega
        generalize ta.kind = kx, ta.name = nx, ta.index = ix, ta.args.length = lx at *
        generalize tb.kind = ky, tb.name = ny, tb.index = iy, tb.args.length = ly at *
        have SK2 : Hid (∀ W' : World, Below wr.heap.size wr W' → Below wr.heap.size wr W' ∧ W'.cell? ⟨w.heap.size, 3, none⟩ = some (.slice (some ⟨g1, o1, none⟩) n c1) ∧ W'.cell? ⟨w.heap.size + 1, 3, none⟩ = some (.slice (some ⟨g2, o2, none⟩) m c2) ∧
            (W'.cell? ⟨g1, o1 + j * 4, none⟩ = some (.int .i64 kx) ∧ W'.cell? ⟨g1, o1 + j * 4 + 1, none⟩ = some (.string nx) ∧ W'.cell? ⟨g1, o1 + j * 4 + 2, none⟩ = some (.int .i64 ix) ∧ W'.cell? ⟨g1, o1 + j * 4 + 3, none⟩ = some (.slice A1' lx c1')) ∧
            (W'.cell? ⟨g2, o2 + j * 4, none⟩ = some (.int .i64 ky) ∧ W'.cell? ⟨g2, o2 + j * 4 + 1, none⟩ = some (.string ny) ∧ W'.cell? ⟨g2, o2 + j * 4 + 2, none⟩ = some (.int .i64 iy) ∧ W'.cell? ⟨g2, o2 + j * 4 + 3, none⟩ = some (.slice A2' ly c2'))) := Lib.hid (fun W' hb =>
          ⟨hb, by rw [hb.cell (by show w.heap.size < _; omega)]; exact x3, by rw [hb.cell (by show w.heap.size + 1 < _; omega)]; exact y3,
            ⟨by rw [hb.cell (by show g1 < _; omega)]; exact k0, by rw [hb.cell (by show g1 < _; omega)]; exact k1, by rw [hb.cell (by show g1 < _; omega)]; exact k2, by rw [hb.cell (by show g1 < _; omega)]; exact k3⟩,
            ⟨by rw [hb.cell (by show g2 < _; omega)]; exact l0, by rw [hb.cell (by show g2 < _; omega)]; exact l1, by rw [hb.cell (by show g2 < _; omega)]; exact l2, by rw [hb.cell (by show g2 < _; omega)]; exact l3⟩⟩)
        have hsbw := hbw.size
        clear hz hc hnm
        go_wp2
        go_region_held3 (fun W' : World => Below wr.heap.size wr W' ∧ W'.cell? ⟨w.heap.size, 3, none⟩ = some (.slice (some ⟨g1, o1, none⟩) n c1) ∧ W'.cell? ⟨w.heap.size + 1, 3, none⟩ = some (.slice (some ⟨g2, o2, none⟩) m c2) ∧
            (W'.cell? ⟨g1, o1 + j * 4, none⟩ = some (.int .i64 kx) ∧ W'.cell? ⟨g1, o1 + j * 4 + 1, none⟩ = some (.string nx) ∧ W'.cell? ⟨g1, o1 + j * 4 + 2, none⟩ = some (.int .i64 ix) ∧ W'.cell? ⟨g1, o1 + j * 4 + 3, none⟩ = some (.slice A1' lx c1')) ∧
            (W'.cell? ⟨g2, o2 + j * 4, none⟩ = some (.int .i64 ky) ∧ W'.cell? ⟨g2, o2 + j * 4 + 1, none⟩ = some (.string ny) ∧ W'.cell? ⟨g2, o2 + j * 4 + 2, none⟩ = some (.int .i64 iy) ∧ W'.cell? ⟨g2, o2 + j * 4 + 3, none⟩ = some (.slice A2' ly c2')))
          (first | exact SK2.out _ (below_drew _) | exact SK2.out _ hbq)
          (first
          | (go_at_call 66; refine (IH.out ta tb _ La Ba Lb Bb _ _ ?h1 (HT1.out.below (below_drew _) ?h2) (HT2.out.below (below_drew _) ?h3) ?h4 ?h5 ?h6).mono ?_
             (case h1 => omega); (case h2 => omega); (case h3 => omega); (case h4 => (simp; omega)); (case h5 => (simp; omega)); (case h6 => omega)
             rintro e wq ⟨rfl, hb'⟩
             have hbq : Below wr.heap.size wr wq := below_step (below_drew _) hb'
             clear hb'))
        go_wp2
        go_roundw
        case rel => exact ⟨j + 1, by omega, by go_num, by rw [hcm.out], hbr.trans (hbq.mono hbr.size)⟩
        case measure => simp [intOf]; omega
      · obtain rfl : j = n := by omega
        have hz2 := Lib.hid (HEND.out hc)
        have hch := Lib.hid hc
        clear hnm hc
        go_wp2
        go_ret
        exact ⟨ret_int (by rw [hz2.out]; exact hch.out), hbw⟩
    · have hc' : (CT j == 0) = false := by rw [beq_eq_false_iff_ne]; exact hc
      have hz2 := Lib.hid (HST.out j hc)
      go_wp2
      go_ret
      exact ⟨ret_int (by rw [hz2.out]), hbw⟩
set_option maxHeartbeats 1000000 in
theorem c_Equal (a b : Ty) (w : World) (La Ba Lb Bb : Nat) (va vb : Value) (ha : IsTy w La Ba a va) (hb : IsTy w Lb Bb b vb) (hBa : Ba ≤ w.heap.size) (hBb : Bb ≤ w.heap.size) (hM : a.size ≤ 2 ^ 60) :
    Calls Tryz.prog 42 #[va, vb] w fun e w' => e = .returned (.bool (a.cmp b == 0)) ∧ Below w.heap.size w w' := by
  have HC := Lib.hid (fun (W : World) (hW : Below w.heap.size w W) => c_Compare a.size a b W La Ba Lb Bb va vb (Nat.le_refl _) (ha.below hW hBa) (hb.below hW hBb) (Nat.le_trans hBa hW.size) (Nat.le_trans hBb hW.size) hM)
  obtain ⟨A1, c1, rfl, _⟩ := ha.args_
  obtain ⟨A2, c2, rfl, _⟩ := hb.args_
  clear ha hb
  generalize a.cmp b = r at *
  generalize a.kind = ka, a.name = na, a.index = ia, b.kind = kb, b.name = nb, b.index = ib, a.args.length = n, b.args.length = m at *
  go_enter Tryz.func42, Tryz.ntmps42
  go_wp2_with fail
  refine (HC.out _ (below_step (below_new _ _) (below_new _ _))).mono ?_
  rintro e w' ⟨rfl, hb'⟩
  go_wp2
  go_ret
  exact ⟨rfl, (below_step (below_step (below_new _ _) (below_new _ _)) hb')⟩
end Go.Proofs.YtdjldmpfginkdaaGreatDoor
