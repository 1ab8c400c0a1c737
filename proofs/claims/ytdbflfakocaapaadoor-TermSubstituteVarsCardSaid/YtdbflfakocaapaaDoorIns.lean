/- slices.Insert of one element into a row of the call's own, at []int and []string: from the shelf's contracts, in the words ownsRow and grownBy. -/
import Derived.Test.YtdbflfakocaapaaDoorStrs
import Derived.Test.YtdbflfakocaapaaDoorShelfP
namespace Go.Proofs.YtdbflfakocaapaaDoor
open Go.RowKit

def setMany : List Value → Nat → Array Value → Array Value
  | [], _, cur => cur
  | v :: vs, o, cur => setMany vs (o + 1) (cur.setIfInBounds o v)
theorem setMany_list : ∀ (vs : List Value) (o : Nat) (cur : Array Value), o + vs.length ≤ cur.size → (setMany vs o cur).toList = cur.toList.take o ++ vs ++ cur.toList.drop (o + vs.length)
  | [], o, cur, h => by simp [setMany]
  | v :: vs, o, cur, h => by
    simp only [List.length_cons] at h
    rw [setMany, setMany_list vs (o + 1) _ (by simp; omega)]
    have h1 : (cur.setIfInBounds o v).toList = cur.toList.set o v := by simp
    rw [h1]
    have ho : o < cur.toList.length := by simp; omega
    rw [List.take_set, List.drop_set_of_lt (by omega)]
    have : (cur.toList.take (o + 1)).set o v = cur.toList.take o ++ [v] := by
      rw [List.take_succ_eq_append_getElem ho, List.set_append_right _ _ (by simp; omega)]
      have h0 : o - (cur.toList.take o).length = 0 := by simp; omega
      rw [h0]
      rfl
    rw [this]
    simp [Nat.add_assoc, Nat.add_comm 1]
theorem setMany_size : ∀ (vs : List Value) (o : Nat) (cur : Array Value), (setMany vs o cur).size = cur.size
  | [], _, _ => rfl
  | v :: vs, o, cur => by rw [setMany, setMany_size vs]; simp
theorem heap_setCells_at {b : Nat} {e : TypeId} {fr : Nat × Nat} : ∀ (vs : List Value) (o : Nat) (w : World) (cur : Array Value), w.heap[b]? = some (.cells cur e fr) → (w.setCells b o vs).heap[b]? = some (.cells (setMany vs o cur) e fr)
  | [], _, _, _, h => h
  | v :: vs, o, w, cur, h => by
    rw [World.setCells, setMany]
    refine heap_setCells_at vs (o + 1) _ _ ?_
    simp [World.setCell, Array.getElem?_modify, h]
theorem setCells_frame {b : Nat} : ∀ (vs : List Value) (o : Nat) (w : World), (w.setCells b o vs).os = w.os ∧ (w.setCells b o vs).tape = w.tape ∧ (w.setCells b o vs).output = w.output ∧ (w.setCells b o vs).heap.size = w.heap.size ∧ ∀ k, k ≠ b → (w.setCells b o vs).heap[k]? = w.heap[k]?
  | [], _, w => ⟨rfl, rfl, rfl, rfl, fun _ _ => rfl⟩
  | v :: vs, o, w => by
    obtain ⟨h1, h2, h3, h4, h5⟩ := setCells_frame (b := b) vs (o + 1) (w.setCell ⟨b, o, none⟩ v)
    rw [World.setCells]
    exact ⟨h1, h2, h3, by rw [h4]; simp [World.setCell], fun k hk => by rw [h5 k hk]; exact Below.heap_setCell _ _ _ _ hk⟩
theorem shift_list (l cs : List Value) (x : Value) (n i : Nat) (hl : l.take n = cs) (hn : cs.length = n) (hi : i ≤ n) (hr : n + 1 ≤ l.length) :
    (((l.take (i + 1) ++ cs.drop i ++ l.drop (i + 1 + (cs.drop i).length)).take i ++ [x] ++ (l.take (i + 1) ++ cs.drop i ++ l.drop (i + 1 + (cs.drop i).length)).drop (i + [x].length)).take (n + 1)) = cs.take i ++ x :: cs.drop i := by
  have e1 : (l.take (i + 1) ++ cs.drop i ++ l.drop (i + 1 + (cs.drop i).length)).take i = cs.take i := by
    rw [List.append_assoc, List.take_append_of_le_length (by simp; omega), List.take_take, ← hl, List.take_take]
    congr 1
    omega
  have e2 : (l.take (i + 1) ++ cs.drop i ++ l.drop (i + 1 + (cs.drop i).length)).drop (i + [x].length) = cs.drop i ++ l.drop (i + 1 + (cs.drop i).length) := by
    rw [List.append_assoc]
    have hlen : (l.take (i + 1)).length = i + 1 := by simp; omega
    show List.drop (i + 1) _ = _
    rw [List.drop_append_of_le_length (by omega), List.drop_eq_nil_of_le (by omega)]
    rfl
  rw [e1, e2]
  have : (cs.take i ++ [x] ++ (cs.drop i ++ l.drop (i + 1 + (cs.drop i).length))) = (cs.take i ++ x :: cs.drop i) ++ l.drop (i + 1 + (cs.drop i).length) := by simp
  rw [this, List.take_append_of_le_length (by simp; omega), List.take_of_length_le (by simp; omega)]

theorem grow_list (l cs : List Value) (x : Value) (n i : Nat) (hl : l.take i = cs.take i) (hn : cs.length = n) (hi : i ≤ n) (_hr : n + 1 ≤ l.length) :
    ((l.take i ++ [x] ++ l.drop (i + [x].length)).take (i + 1) ++ cs.drop i ++ (l.take i ++ [x] ++ l.drop (i + [x].length)).drop (i + 1 + (cs.drop i).length)).take (n + 1) = cs.take i ++ x :: cs.drop i := by
  have e1 : (l.take i ++ [x] ++ l.drop (i + [x].length)).take (i + 1) = cs.take i ++ [x] := by
    rw [hl, List.take_append_of_le_length (by simp; omega), List.take_of_length_le (by simp; omega)]
  rw [e1, List.take_append_of_le_length (by simp; omega), List.take_of_length_le (by simp; omega)]
  simp

/-- What an insertion leaves: the row has grown by one element; nothing else that was there has changed. -/
def InsPost (T : TypeId) (base : Nat) (v : Value) (cs : List Value) (n : Nat) (w : World) (e : Ending) (w' : World) : Prop :=
  ∃ v', e = .returned v' ∧ w'.ownsRow base T 1 v' n cs ∧ w.grownBy w' v.ownBlock ∧ (v'.ownBlock = v.ownBlock ∨ v'.ownBlock = some w.heap.size)

theorem c_InsertInts (base n i vb : Nat) (v : Value) (cs : List Value) (x : Value) (w : World) (hown : w.ownsRow base 3 1 v n cs) (h1 : ∀ u ∈ cs, u.oneCell' = true) (hx : x.oneCell' = true) (hi : i ≤ n) (hn : n ≤ 2 ^ 30) (hbase : base ≤ w.heap.size)
    (hvb : w.heap[vb]? = some (.cells #[x] 3 (0, 0))) (hne : v.ownBlock ≠ some vb) :
    Calls Tryd.prog 93 #[v, .int .i64 i, .slice (some ⟨vb, 0, none⟩) 1 1] w (InsPost 3 base v (cs.take i ++ x :: cs.drop i) (n + 1) w) := by
  have hcl : cs.length = n := by have := hown.1; omega
  have hvs : ∀ j u, [x][j]? = some u → w.cell? ⟨vb, 0 + j, none⟩ = some u := fun j u hu => by rw [Nat.zero_add, cell_of_row w vb j #[x] _ _ hvb]; simpa using hu
  have h1v : ∀ u ∈ [x], u.oneCell' = true := by simpa using hx
  have hlist : (cs.take i ++ x :: cs.drop i).length = (n + 1) * 1 := by simp; omega
  have hgc := grownCap_ge w (n + 1)
  rcases hown.2 with ⟨rfl, rfl⟩ | ⟨g, cap, cur, rfl, hbg, hg, hnc, hcm, hcs, htake⟩
  · obtain rfl : i = 0 := by omega
    obtain rfl : cs = [] := List.eq_nil_of_length_eq_zero hcl
    refine (Any2.slices_Insert_int_end_grow Tryd.laysInsI none 0 0 vb 0 1 1 [] [x] w (by omega) (by omega) (by omega) (by omega) rfl rfl (fun _ => rfl) (by simp) hvs h1v).mono ?_
    intro e w' hh
    simp only [show Tryd.laysInsI_ren.t 3 = 3 from rfl] at hh
    obtain ⟨rfl, rfl⟩ := hh
    have hc1 := grownCap_ge w 1 0 3
    have hc2 := grownCap_le_maxLen w 1 0 3 (by simp [maxLen])
    refine ⟨_, rfl, ⟨by simp, .inr ⟨w.heap.size, _, _, rfl, hbase, heap_alloc_new w.drew _, hc1, hc2, ?_, ?_⟩⟩, ⟨rfl, rfl, rfl, by simp, fun k hk _ => Below.heap_alloc w.drew _ k hk⟩, .inr rfl⟩
    · simp only [Array.size_append, List.size_toArray, size_zeroCells]
      simp [Value.cells]
      omega
    · simp
  · have hcells : ∀ j u, cs[j]? = some u → w.cell? ⟨g, 0 + j, none⟩ = some u := fun j u hu => by
      have := hown.cells (g := g) rfl j u hu
      simpa [Addr.add_lit] using this
    have hcur : ∀ j, j < cap → (w.cell? ⟨g, j, none⟩).isSome = true := fun j hj => by
      rw [cell_of_row w g j cur _ _ hg]
      simp; omega
    have hfz : ∀ j, w.frozen? ⟨g, j, none⟩ = false := fun j => by simp [World.frozen?, hg]
    have hcl2 : cur.toList.length = cap := by simpa using hcs
    have hgne : vb ≠ g := fun e => hne (by rw [e]; rfl)
    have htake' : cur.toList.take n = cs := by simpa using htake
    by_cases hroom : n + 1 ≤ cap
    · by_cases hin : i = n
      · subst hin
        refine (Any2.slices_Insert_int_end_room Tryd.laysInsI g 0 i cap vb 0 1 1 [x] w (by omega) hroom (by simpa [maxLen] using hcm) rfl (fun j hj => by rw [Nat.zero_add]; exact hcur _ (by omega)) (fun j hj => hfz _) hvs h1v).mono ?_
        rintro e w' ⟨rfl, rfl⟩
        obtain ⟨f1, f2, f3, f4, f5⟩ := setCells_frame (b := g) [x] (0 + i) w
        refine ⟨_, rfl, ⟨hlist, .inr ⟨g, cap, _, rfl, hbg, heap_setCells_at _ _ _ _ hg, hroom, hcm, by rw [setMany_size]; exact hcs, ?_⟩⟩, ⟨f1, f2, f3, by omega, fun k _ hk => f5 k (fun e => hk (by simp [Value.ownBlock, e]))⟩, .inl rfl⟩
        rw [setMany_list _ _ _ (by simp; omega), Nat.zero_add, htake', Nat.mul_one, List.append_assoc, ← List.append_assoc]
        rw [List.take_append_of_le_length (by simp; omega), List.take_of_length_le (by simp; omega), List.take_of_length_le (by omega), List.drop_eq_nil_of_le (by omega)]
      · have hlt : i < n := by omega
        refine (Any2.slices_Insert_int_shift Tryd.laysInsI g 0 n cap i vb 0 1 1 cs [x] w hlt (by omega) hroom (by simpa [maxLen] using hcm) hgne hcl rfl hcells (fun j hj => by rw [Nat.zero_add]; exact hcur _ (by omega)) (fun j hj => hfz _) hvs h1 h1v
          3 3 1 cur.size (by simp [World.shape?, hvb]) (by simp [World.shape?, hg]) (by simp at hcs; omega) (by simp [World.frozen?, hvb]) (by simp [World.frozen?, hvb])).mono ?_
        rintro e w' ⟨rfl, rfl⟩
        obtain ⟨f1, f2, f3, f4, f5⟩ := setCells_frame (b := g) (cs.drop i) (0 + (i + 1)) w.drew
        obtain ⟨g1, g2, g3, g4, g5⟩ := setCells_frame (b := g) [x] (0 + i) (w.drew.setCells g (0 + (i + 1)) (cs.drop i))
        refine ⟨_, rfl, ⟨hlist, .inr ⟨g, cap, _, rfl, hbg, heap_setCells_at _ _ _ _ (heap_setCells_at _ _ _ _ hg), hroom, hcm, by rw [setMany_size, setMany_size]; exact hcs, ?_⟩⟩, ⟨g1.trans f1, g2.trans f2, g3.trans f3, by rw [g4, f4]; exact Nat.le_refl _, fun k _ hk => (g5 k (fun e => hk (by simp [Value.ownBlock, e]))).trans (f5 k (fun e => hk (by simp [Value.ownBlock, e])))⟩, .inl rfl⟩
        rw [setMany_list _ _ _ (by rw [setMany_size]; simp; omega), setMany_list _ _ _ (by simp; omega), Nat.zero_add, Nat.zero_add, Nat.mul_one]
        exact shift_list _ _ _ _ _ htake' hcl hi (by omega)
    · by_cases hin : i = n
      · subst hin
        refine (Any2.slices_Insert_int_end_grow Tryd.laysInsI (some ⟨g, 0, none⟩) i cap vb 0 1 1 cs [x] w (by omega) hnc (by omega) (by omega) hcl rfl (by simp) (fun a ha j u hu => by
          simp only [Option.some.injEq] at ha
          subst ha
          exact hown.cells (g := g) rfl j u hu) hvs h1v).mono ?_
        intro e w' hh
        simp only [show Tryd.laysInsI_ren.t 3 = 3 from rfl] at hh
        obtain ⟨rfl, rfl⟩ := hh
        have hc1 := grownCap_ge w (i + 1) cap 3
        have hc2 := grownCap_le_maxLen w (i + 1) cap 3 (by simp [maxLen]; omega)
        have e0 : cs.take i ++ x :: cs.drop i = cs ++ [x] := by rw [List.take_of_length_le (by omega), List.drop_eq_nil_of_le (by omega)]
        rw [e0] at hlist ⊢
        refine ⟨_, rfl, ⟨hlist, .inr ⟨w.heap.size, _, _, rfl, hbase, heap_alloc_new w.drew _, hc1, hc2, ?_, ?_⟩⟩, ⟨rfl, rfl, rfl, by simp, fun k hk _ => Below.heap_alloc w.drew _ k hk⟩, .inr rfl⟩
        · simp only [Array.size_append, List.size_toArray, size_zeroCells]
          simp [Value.cells, hcl]
          omega
        · rw [Array.toList_append, List.take_append_of_le_length (by simp; omega), List.take_of_length_le (by simp; omega)]
      · have hlt : i < n := by omega
        refine (Any2.slices_Insert_int_grow Tryd.laysInsI g 0 n cap i vb 0 1 1 cs [x] w hlt (by omega) hnc (by omega) (by omega) hcl rfl hcells hvs h1 h1v).mono ?_
        intro e w' hh
        simp only [show Tryd.laysInsI_ren.t 3 = 3 from rfl] at hh
        obtain ⟨rfl, rfl⟩ := hh
        have hc1 := grownCap_ge w (n + 1) cap 3
        have hc2 := grownCap_le_maxLen w (n + 1) cap 3 (by simp [maxLen]; omega)
        generalize hA : (cs.take i).toArray ++ Builtin.zeroCells (Value.cells (.int .i64 0)) (n + 1 - i) ++ Builtin.zeroCells (Value.cells (.int .i64 0)) (grownCap w (n + 1) cap 3 - (n + 1)) = arr
        have hAs : arr.size = grownCap w (n + 1) cap 3 := by
          rw [← hA]
          simp only [Array.size_append, List.size_toArray, size_zeroCells]
          simp [Value.cells]
          omega
        have hAt : arr.toList.take i = cs.take i := by
          rw [← hA, Array.toList_append, Array.toList_append, List.append_assoc, List.take_append_of_le_length (by simp; omega), List.take_of_length_le (by simp; omega)]
        obtain ⟨f1, f2, f3, f4, f5⟩ := setCells_frame (b := w.heap.size) [x] i (w.alloc (.cells arr 3)).drew
        obtain ⟨g1, g2, g3, g4, g5⟩ := setCells_frame (b := w.heap.size) (cs.drop i) (i + 1) ((w.alloc (.cells arr 3)).drew.setCells w.heap.size i [x]).drew
        refine ⟨_, rfl, ⟨hlist, .inr ⟨w.heap.size, _, _, rfl, hbase, heap_setCells_at _ _ _ _ (heap_setCells_at _ _ (w.alloc (.cells arr 3)).drew _ (heap_alloc_new w _)), hc1, hc2, by rw [setMany_size, setMany_size, hAs, Nat.mul_one], ?_⟩⟩, ⟨g1.trans f1, g2.trans f2, g3.trans f3, ?_, fun k hk _ => (g5 k (by omega)).trans ((f5 k (by omega)).trans (Below.heap_alloc w _ k hk))⟩, .inr rfl⟩
        · rw [setMany_list _ _ _ (by rw [setMany_size]; simp; omega), setMany_list _ _ _ (by simp; omega), Nat.mul_one]
          exact grow_list _ _ _ _ _ hAt hcl hi (by simp; omega)
        · rw [g4]
          show _ ≤ ((w.alloc (.cells arr 3)).drew.setCells w.heap.size i [x]).heap.size
          rw [f4]
          simp

theorem c_InsertStrs (base n i vb : Nat) (v : Value) (cs : List Value) (x : Value) (w : World) (hown : w.ownsRow base 9 1 v n cs) (h1 : ∀ u ∈ cs, u.oneCell' = true) (hx : x.oneCell' = true) (hi : i ≤ n) (hn : n ≤ 2 ^ 30) (hbase : base ≤ w.heap.size)
    (hvb : w.heap[vb]? = some (.cells #[x] 9 (0, 0))) (hne : v.ownBlock ≠ some vb) :
    Calls Tryd.prog 95 #[v, .int .i64 i, .slice (some ⟨vb, 0, none⟩) 1 1] w (InsPost 9 base v (cs.take i ++ x :: cs.drop i) (n + 1) w) := by
  have hcl : cs.length = n := by have := hown.1; omega
  have hvs : ∀ j u, [x][j]? = some u → w.cell? ⟨vb, 0 + j, none⟩ = some u := fun j u hu => by rw [Nat.zero_add, cell_of_row w vb j #[x] _ _ hvb]; simpa using hu
  have h1v : ∀ u ∈ [x], u.oneCell' = true := by simpa using hx
  have hlist : (cs.take i ++ x :: cs.drop i).length = (n + 1) * 1 := by simp; omega
  have hgc := grownCap_ge w (n + 1)
  rcases hown.2 with ⟨rfl, rfl⟩ | ⟨g, cap, cur, rfl, hbg, hg, hnc, hcm, hcs, htake⟩
  · obtain rfl : i = 0 := by omega
    obtain rfl : cs = [] := List.eq_nil_of_length_eq_zero hcl
    refine (Any2.slices_Insert_string_end_grow Tryd.laysInsS none 0 0 vb 0 1 1 [] [x] w (by omega) (by omega) (by omega) (by omega) rfl rfl (fun _ => rfl) (by simp) hvs h1v).mono ?_
    intro e w' hh
    simp only [show Tryd.laysInsS_ren.t 9 = 9 from rfl] at hh
    obtain ⟨rfl, rfl⟩ := hh
    have hc1 := grownCap_ge w 1 0 9
    have hc2 := grownCap_le_maxLen w 1 0 9 (by simp [maxLen])
    refine ⟨_, rfl, ⟨by simp, .inr ⟨w.heap.size, _, _, rfl, hbase, heap_alloc_new w.drew _, hc1, hc2, ?_, ?_⟩⟩, ⟨rfl, rfl, rfl, by simp, fun k hk _ => Below.heap_alloc w.drew _ k hk⟩, .inr rfl⟩
    · simp only [Array.size_append, List.size_toArray, size_zeroCells]
      simp [Value.cells]
      omega
    · simp
  · have hcells : ∀ j u, cs[j]? = some u → w.cell? ⟨g, 0 + j, none⟩ = some u := fun j u hu => by
      have := hown.cells (g := g) rfl j u hu
      simpa [Addr.add_lit] using this
    have hcur : ∀ j, j < cap → (w.cell? ⟨g, j, none⟩).isSome = true := fun j hj => by
      rw [cell_of_row w g j cur _ _ hg]
      simp; omega
    have hfz : ∀ j, w.frozen? ⟨g, j, none⟩ = false := fun j => by simp [World.frozen?, hg]
    have hcl2 : cur.toList.length = cap := by simpa using hcs
    have hgne : vb ≠ g := fun e => hne (by rw [e]; rfl)
    have htake' : cur.toList.take n = cs := by simpa using htake
    by_cases hroom : n + 1 ≤ cap
    · by_cases hin : i = n
      · subst hin
        refine (Any2.slices_Insert_string_end_room Tryd.laysInsS g 0 i cap vb 0 1 1 [x] w (by omega) hroom (by simpa [maxLen] using hcm) rfl (fun j hj => by rw [Nat.zero_add]; exact hcur _ (by omega)) (fun j hj => hfz _) hvs h1v).mono ?_
        rintro e w' ⟨rfl, rfl⟩
        obtain ⟨f1, f2, f3, f4, f5⟩ := setCells_frame (b := g) [x] (0 + i) w
        refine ⟨_, rfl, ⟨hlist, .inr ⟨g, cap, _, rfl, hbg, heap_setCells_at _ _ _ _ hg, hroom, hcm, by rw [setMany_size]; exact hcs, ?_⟩⟩, ⟨f1, f2, f3, by omega, fun k _ hk => f5 k (fun e => hk (by simp [Value.ownBlock, e]))⟩, .inl rfl⟩
        rw [setMany_list _ _ _ (by simp; omega), Nat.zero_add, htake', Nat.mul_one, List.append_assoc, ← List.append_assoc]
        rw [List.take_append_of_le_length (by simp; omega), List.take_of_length_le (by simp; omega), List.take_of_length_le (by omega), List.drop_eq_nil_of_le (by omega)]
      · have hlt : i < n := by omega
        refine (Any2.slices_Insert_string_shift Tryd.laysInsS g 0 n cap i vb 0 1 1 cs [x] w hlt (by omega) hroom (by simpa [maxLen] using hcm) hgne hcl rfl hcells (fun j hj => by rw [Nat.zero_add]; exact hcur _ (by omega)) (fun j hj => hfz _) hvs h1 h1v
          9 9 1 cur.size (by simp [World.shape?, hvb]) (by simp [World.shape?, hg]) (by simp at hcs; omega) (by simp [World.frozen?, hvb]) (by simp [World.frozen?, hvb])).mono ?_
        rintro e w' ⟨rfl, rfl⟩
        obtain ⟨f1, f2, f3, f4, f5⟩ := setCells_frame (b := g) (cs.drop i) (0 + (i + 1)) w.drew
        obtain ⟨g1, g2, g3, g4, g5⟩ := setCells_frame (b := g) [x] (0 + i) (w.drew.setCells g (0 + (i + 1)) (cs.drop i))
        refine ⟨_, rfl, ⟨hlist, .inr ⟨g, cap, _, rfl, hbg, heap_setCells_at _ _ _ _ (heap_setCells_at _ _ _ _ hg), hroom, hcm, by rw [setMany_size, setMany_size]; exact hcs, ?_⟩⟩, ⟨g1.trans f1, g2.trans f2, g3.trans f3, by rw [g4, f4]; exact Nat.le_refl _, fun k _ hk => (g5 k (fun e => hk (by simp [Value.ownBlock, e]))).trans (f5 k (fun e => hk (by simp [Value.ownBlock, e])))⟩, .inl rfl⟩
        rw [setMany_list _ _ _ (by rw [setMany_size]; simp; omega), setMany_list _ _ _ (by simp; omega), Nat.zero_add, Nat.zero_add, Nat.mul_one]
        exact shift_list _ _ _ _ _ htake' hcl hi (by omega)
    · by_cases hin : i = n
      · subst hin
        refine (Any2.slices_Insert_string_end_grow Tryd.laysInsS (some ⟨g, 0, none⟩) i cap vb 0 1 1 cs [x] w (by omega) hnc (by omega) (by omega) hcl rfl (by simp) (fun a ha j u hu => by
          simp only [Option.some.injEq] at ha
          subst ha
          exact hown.cells (g := g) rfl j u hu) hvs h1v).mono ?_
        intro e w' hh
        simp only [show Tryd.laysInsS_ren.t 9 = 9 from rfl] at hh
        obtain ⟨rfl, rfl⟩ := hh
        have hc1 := grownCap_ge w (i + 1) cap 9
        have hc2 := grownCap_le_maxLen w (i + 1) cap 9 (by simp [maxLen]; omega)
        have e0 : cs.take i ++ x :: cs.drop i = cs ++ [x] := by rw [List.take_of_length_le (by omega), List.drop_eq_nil_of_le (by omega)]
        rw [e0] at hlist ⊢
        refine ⟨_, rfl, ⟨hlist, .inr ⟨w.heap.size, _, _, rfl, hbase, heap_alloc_new w.drew _, hc1, hc2, ?_, ?_⟩⟩, ⟨rfl, rfl, rfl, by simp, fun k hk _ => Below.heap_alloc w.drew _ k hk⟩, .inr rfl⟩
        · simp only [Array.size_append, List.size_toArray, size_zeroCells]
          simp [Value.cells, hcl]
          omega
        · rw [Array.toList_append, List.take_append_of_le_length (by simp; omega), List.take_of_length_le (by simp; omega)]
      · have hlt : i < n := by omega
        refine (Any2.slices_Insert_string_grow Tryd.laysInsS g 0 n cap i vb 0 1 1 cs [x] w hlt (by omega) hnc (by omega) (by omega) hcl rfl hcells hvs h1 h1v).mono ?_
        intro e w' hh
        simp only [show Tryd.laysInsS_ren.t 9 = 9 from rfl] at hh
        obtain ⟨rfl, rfl⟩ := hh
        have hc1 := grownCap_ge w (n + 1) cap 9
        have hc2 := grownCap_le_maxLen w (n + 1) cap 9 (by simp [maxLen]; omega)
        generalize hA : (cs.take i).toArray ++ Builtin.zeroCells (Value.cells (.string ⟨#[]⟩)) (n + 1 - i) ++ Builtin.zeroCells (Value.cells (.string ⟨#[]⟩)) (grownCap w (n + 1) cap 9 - (n + 1)) = arr
        have hAs : arr.size = grownCap w (n + 1) cap 9 := by
          rw [← hA]
          simp only [Array.size_append, List.size_toArray, size_zeroCells]
          simp [Value.cells]
          omega
        have hAt : arr.toList.take i = cs.take i := by
          rw [← hA, Array.toList_append, Array.toList_append, List.append_assoc, List.take_append_of_le_length (by simp; omega), List.take_of_length_le (by simp; omega)]
        obtain ⟨f1, f2, f3, f4, f5⟩ := setCells_frame (b := w.heap.size) [x] i (w.alloc (.cells arr 9)).drew
        obtain ⟨g1, g2, g3, g4, g5⟩ := setCells_frame (b := w.heap.size) (cs.drop i) (i + 1) ((w.alloc (.cells arr 9)).drew.setCells w.heap.size i [x]).drew
        refine ⟨_, rfl, ⟨hlist, .inr ⟨w.heap.size, _, _, rfl, hbase, heap_setCells_at _ _ _ _ (heap_setCells_at _ _ (w.alloc (.cells arr 9)).drew _ (heap_alloc_new w _)), hc1, hc2, by rw [setMany_size, setMany_size, hAs, Nat.mul_one], ?_⟩⟩, ⟨g1.trans f1, g2.trans f2, g3.trans f3, ?_, fun k hk _ => (g5 k (by omega)).trans ((f5 k (by omega)).trans (Below.heap_alloc w _ k hk))⟩, .inr rfl⟩
        · rw [setMany_list _ _ _ (by rw [setMany_size]; simp; omega), setMany_list _ _ _ (by simp; omega), Nat.mul_one]
          exact grow_list _ _ _ _ _ hAt hcl hi (by simp; omega)
        · rw [g4]
          show _ ≤ ((w.alloc (.cells arr 9)).drew.setCells w.heap.size i [x]).heap.size
          rw [f4]
          simp
end Go.Proofs.YtdbflfakocaapaaDoor
