/- Contract of regcode.hasFreeCycle. -/
import Derived.Test.YtdjldmpfginkdaaGreatDoorGSucc
import Derived.Test.YtdjldmpfginkdaaGreatDoorGGraph
import Derived.Test.YtdjldmpfginkdaaGreatDoorGRegB
import Derived.BigGuard
namespace Go.Proofs.YtdjldmpfginkdaaGreatDoor
open Go.RowKit
attribute [local go_sem ↓] Go.wp_at_zero Go.wp_at_succ

def natI (l : List Nat) : List Value := l.map fun (n : Nat) => Value.int .i64 (n : Int)
theorem natI_set (l : List Nat) (i p : Nat) : natI (l.set i p) = (natI l).set i (.int .i64 (p : Int)) := by simp [natI, List.map_set]
theorem natI_get {l : List Nat} {i p : Nat} (h : l[i]? = some p) : (natI l)[i]? = some (.int .i64 (p : Int)) := by simp [natI, h]
/-- What holds between the operations: the box of the code, the row of counts. -/
def Fc (w : World) (u0 u1 u2 u3 : Value) (ps : List Nat) (W : World) : Prop := (W.cell? ⟨w.heap.size, 0, none⟩ = some (u0) ∧ W.cell? ⟨w.heap.size, 1, none⟩ = some (u1) ∧ W.cell? ⟨w.heap.size, 2, none⟩ = some (u2) ∧ W.cell? ⟨w.heap.size, 3, none⟩ = some (u3)) ∧ RowV W (w.heap.size + 1) 3 (natI ps) ∧ Below w.heap.size w W ∧ w.heap.size + 1 < W.heap.size
section
variable {w W W' : World} {u0 u1 u2 u3 : Value} {ps : List Nat}
theorem Fc.step (h : Fc w u0 u1 u2 u3 ps W) (hb : Below W.heap.size W W') : Fc w u0 u1 u2 u3 ps W' := by
  obtain ⟨⟨b0, b1, b2, b3⟩, hr, hbw, hl⟩ := h
  have hc : ∀ (i : Nat) (v : Value), W.cell? ⟨w.heap.size, i, none⟩ = some v → W'.cell? ⟨w.heap.size, i, none⟩ = some v := fun i v h => (hb.cell (p := ⟨w.heap.size, i, none⟩) (by simp; omega)).trans h
  exact ⟨⟨hc _ _ b0, hc _ _ b1, hc _ _ b2, hc _ _ b3⟩, hr.below hb, below_step hbw hb, Nat.lt_of_lt_of_le hl hb.size⟩
theorem Fc.set (h : Fc w u0 u1 u2 u3 ps W) (i p : Nat) : Fc w u0 u1 u2 u3 (ps.set i p) (W.setCell ⟨w.heap.size + 1, i, none⟩ (.int .i64 (p : Int))) := by
  obtain ⟨⟨b0, b1, b2, b3⟩, hr, hbw, hl⟩ := h
  have hk : (W.setCell ⟨w.heap.size + 1, i, none⟩ (.int .i64 (p : Int))).heap[w.heap.size]? = W.heap[w.heap.size]? := Below.heap_setCell _ _ _ _ (by show w.heap.size ≠ w.heap.size + 1; omega)
  have hc : ∀ (j : Nat), (W.setCell ⟨w.heap.size + 1, i, none⟩ (.int .i64 (p : Int))).cell? ⟨w.heap.size, j, none⟩ = W.cell? ⟨w.heap.size, j, none⟩ := fun j => World.cell?_of_block (w := W) hk
  refine ⟨⟨(hc _).trans b0, (hc _).trans b1, (hc _).trans b2, (hc _).trans b3⟩, ?_, below_set hbw (by omega) _ _, by simp [World.setCell]; exact hl⟩
  rw [natI_set]
  exact hr.set i _
end
theorem fc_start (w : World) (u0 u1 u2 u3 : Value) (n : Nat) : Fc w u0 u1 u2 u3 (List.replicate n 0) ((w.alloc (.cells #[u0, u1, u2, u3] 26)).alloc (.cells (Array.replicate n (.int .i64 0)) 3)) := by
  have h1 := blk_old (o' := .cells (Array.replicate n (.int .i64 0)) 3) (blk_new w (.cells #[u0, u1, u2, u3] 26))
  have h2 := blk_new2 w (.cells #[u0, u1, u2, u3] 26) (.cells (Array.replicate n (.int .i64 0)) 3)
  refine ⟨⟨?_, ?_, ?_, ?_⟩, ?_, below_step (below_new _ _) (below_new _ _), by simp⟩
  · rw [cell_of_row _ w.heap.size _ _ _ _ h1]; rfl
  · rw [cell_of_row _ w.heap.size _ _ _ _ h1]; rfl
  · rw [cell_of_row _ w.heap.size _ _ _ _ h1]; rfl
  · rw [cell_of_row _ w.heap.size _ _ _ _ h1]; rfl
  · unfold RowV natI
    rw [h2]
    simp
theorem Fc.set' {w W : World} {u0 u1 u2 u3 : Value} {ps : List Nat} (h : Fc w u0 u1 u2 u3 ps W) (i p : Nat) {y : Int} (hy : y = (p : Int)) : Fc w u0 u1 u2 u3 (ps.set i p) (W.setCell ⟨w.heap.size + 1, i, none⟩ (.int .i64 y)) := by
  subst hy
  exact h.set i p
theorem Fc.grown {w W W' : World} {u0 u1 u2 u3 : Value} {ps : List Nat} {row : Option Nat} (h : Fc w u0 u1 u2 u3 ps W) (hg : W.grownBy W' row) (hr : ∀ k, row = some k → w.heap.size + 2 ≤ k) : Fc w u0 u1 u2 u3 ps W' := by
  obtain ⟨⟨b0, b1, b2, b3⟩, hrow, hbw, hl⟩ := h
  have hk : ∀ b, b < w.heap.size + 2 → W'.heap[b]? = W.heap[b]? := fun b hb => hg.block b (by omega) (fun e => by have := hr b e.symm; omega)
  have hc : ∀ (i : Nat), W'.cell? ⟨w.heap.size, i, none⟩ = W.cell? ⟨w.heap.size, i, none⟩ := fun i => World.cell?_of_block (w := W) (hk _ (by show w.heap.size < _; omega))
  exact ⟨⟨(hc _).trans b0, (hc _).trans b1, (hc _).trans b2, (hc _).trans b3⟩, hrow.keep (hk _ (by omega)), hbw.grown hg (by omega) (fun k e => by have := hr k e; omega), Nat.lt_of_lt_of_le hl hg.size⟩
theorem own_zero {w : World} {base : Nat} {e : TypeId} {v : Value} {xs : List Value} (h : w.ownsRow base e 1 v 0 xs) : ∃ A c, v = .slice A 0 c := by
  rcases h.2 with ⟨h, _⟩ | ⟨g, cap, cur, h, _⟩
  · exact ⟨_, _, h⟩
  · exact ⟨_, _, h⟩
theorem own_set {w : World} {base n b : Nat} {e : TypeId} {v : Value} {xs : List Value} (h : w.ownsRow base e 1 v n xs) (hb : b < base) (i : Nat) (u : Value) : (w.setCell ⟨b, i, none⟩ u).ownsRow base e 1 v n xs := ownsRow_setCell_below h hb u
theorem own_pop {w : World} {base m : Nat} {e : TypeId} {v u : Value} {xs : List Value} (h : w.ownsRow base e 1 v (m + 1) (xs ++ [u])) : ∃ g cap, v = .slice (some ⟨g, 0, none⟩) (m + 1) cap ∧ (m + 1 ≤ cap ∧ cap ≤ 9223372036854775807) ∧ base ≤ g ∧ w.cell? ⟨g, m, none⟩ = some u ∧ w.ownsRow base e 1 (.slice (some ⟨g, 0, none⟩) m cap) m xs := by
  have hl := h.1
  rcases h.2 with ⟨_, h0⟩ | ⟨g, cap, cur, rfl, hg, hh, hnc, hcm, hcs, ht⟩
  · omega
  · have hx : xs.length = m := by simp at hl; omega
    refine ⟨g, cap, rfl, ⟨hnc, by unfold maxLen at hcm; omega⟩, hg, ?_, by omega, .inr ⟨g, cap, cur, rfl, hg, hh, by omega, hcm, hcs, ?_⟩⟩
    · rw [cell_of_row w g m _ _ _ hh]
      have h1 : (cur.toList.take ((m + 1) * 1))[m]? = some u := by rw [ht]; simp [← hx]
      rw [List.getElem?_take] at h1
      simpa using h1
    · have h1 : (cur.toList.take ((m + 1) * 1)).take m = xs := by rw [ht]; simp [← hx]
      rw [List.take_take] at h1
      rw [← h1]
      congr 1
      omega
theorem RowRes.form {L : Nat} {W : World} {xs : List Int} {v : Value} (h : RowRes L W xs v) : ∃ A c, v = .slice A xs.length c ∧ (xs.length = 0 ∨ ∃ g, A = some ⟨g, 0, none⟩ ∧ L ≤ g ∧ RowV W g 3 (ints xs)) := by
  rcases h with ⟨rfl, rfl⟩ | ⟨g, rfl, hg, hr⟩
  · exact ⟨_, _, rfl, .inl rfl⟩
  · exact ⟨_, _, rfl, .inr ⟨g, rfl, hg, hr⟩⟩
/-- The row that lists edges, while the counts are written. -/
def Edg (A : Option Addr) (L L2 : Nat) (xs : List Int) (W : World) : Prop := xs.length = 0 ∨ ∃ g, A = some ⟨g, 0, none⟩ ∧ L ≤ g ∧ g < L2 ∧ RowV W g 3 (ints xs)
theorem Edg.made {A : Option Addr} {L : Nat} {xs : List Int} {W : World} (h : xs.length = 0 ∨ ∃ g, A = some ⟨g, 0, none⟩ ∧ L ≤ g ∧ RowV W g 3 (ints xs)) : Edg A L W.heap.size xs W := by
  rcases h with h | ⟨g, hA, hg, hr⟩
  · exact .inl h
  · exact .inr ⟨g, hA, hg, hr.lt, hr⟩
theorem Edg.step {A : Option Addr} {L L2 : Nat} {xs : List Int} {W W' : World} (h : Edg A L L2 xs W) (hb : Below W.heap.size W W') : Edg A L L2 xs W' := by
  rcases h with h | ⟨g, hA, hg, hg2, hr⟩
  · exact .inl h
  · exact .inr ⟨g, hA, hg, hg2, hr.below hb⟩
theorem Edg.grown {A : Option Addr} {L L2 : Nat} {xs : List Int} {W W' : World} {row : Option Nat} (h : Edg A L L2 xs W) (hg : W.grownBy W' row) (hr : ∀ k, row = some k → k < L ∨ L2 ≤ k) : Edg A L L2 xs W' := by
  rcases h with h | ⟨g, hA, hg1, hg2, hrow⟩
  · exact .inl h
  · exact .inr ⟨g, hA, hg1, hg2, hrow.keep (hg.block g hrow.lt (fun e => by have := hr g e.symm; omega))⟩
theorem Edg.set {A : Option Addr} {L L2 b : Nat} {xs : List Int} {W : World} (h : Edg A L L2 xs W) (hb : b < L) (i : Nat) (u : Value) : Edg A L L2 xs (W.setCell ⟨b, i, none⟩ u) := by
  rcases h with h | ⟨g, hA, hg, hg2, hr⟩
  · exact .inl h
  · exact .inr ⟨g, hA, hg, hg2, hr.keep (Below.heap_setCell _ _ _ _ (by show g ≠ b; omega))⟩
theorem Edg.get {A : Option Addr} {L L2 : Nat} {l : List Nat} {W : World} (h : Edg A L L2 (l.map fun (q : Nat) => (q : Int)) W) {q : Nat} (hq : q < l.length) : ∃ g, A = some ⟨g, 0, none⟩ ∧ L ≤ g ∧ W.cell? ⟨g, q, none⟩ = some (.int .i64 (l[q] : Nat)) := by
  rcases h with h | ⟨g, hA, hg, _, hr⟩
  · rw [List.length_map] at h; omega
  · exact ⟨g, hA, hg, hr.cell (by simp [ints, hq])⟩
theorem own_below {w w' : World} {base n : Nat} {e : TypeId} {v : Value} {xs : List Value} (h : w.ownsRow base e 1 v n xs) (hb : Below w.heap.size w w') : w'.ownsRow base e 1 v n xs := by
  refine ⟨h.1, ?_⟩
  rcases h.2 with h1 | ⟨g, cap, cur, hv, hg, hh, r⟩
  · exact .inl h1
  · exact .inr ⟨g, cap, cur, hv, hg, (hb.block g (Array.getElem?_eq_some_iff.1 hh).1).trans hh, r⟩
theorem nodup_le : ∀ (n : Nat) (l : List Nat), l.Nodup → (∀ x ∈ l, x < n) → l.length ≤ n
  | 0, l, _, h => by
    cases l with
    | nil => simp
    | cons a l => have := h a (by simp); omega
  | n + 1, l, hn, h => by
    by_cases hm : n ∈ l
    · have h1 := nodup_le n (l.erase n) (hn.erase n) (fun x hx => by
        have h2 := (hn.mem_erase_iff).1 hx
        have h3 := h x h2.2
        have h4 := h2.1
        omega)
      rw [List.length_erase_of_mem hm] at h1
      omega
    · have h1 := nodup_le n l hn (fun x hx => by
        have h3 := h x hx
        have h4 : x ≠ n := fun e => hm (e ▸ hx)
        omega)
      omega
/-- The nodes below k that wait. -/
def wkTo (free : Nat → Bool) (ps : List Nat) (k : Nat) : List Nat := (List.range k).filter fun j => free j && ps[j]? == some 0
theorem wkTo_len (free : Nat → Bool) (ps : List Nat) (k : Nat) : (wkTo free ps k).length ≤ k := by
  have := List.length_filter_le (fun j => free j && ps[j]? == some 0) (List.range k)
  simpa [wkTo] using this
theorem wkTo_yes {free : Nat → Bool} {ps : List Nat} {k : Nat} (h : free k = true) (hp : ps[k]? = some 0) : wkTo free ps (k + 1) = wkTo free ps k ++ [k] := by
  unfold wkTo
  rw [List.range_succ, List.filter_append]
  simp [h, hp]
theorem wkTo_no {free : Nat → Bool} {ps : List Nat} {k : Nat} (h : free k = false ∨ ps[k]? ≠ some 0) : wkTo free ps (k + 1) = wkTo free ps k := by
  unfold wkTo
  rw [List.range_succ, List.filter_append]
  rcases h with h | h <;> simp [h]
/-- The counts after k nodes and the edges pre of the next one. -/
def E1 (n : Nat) (free : Nat → Bool) (succ : Nat → List Nat) (k : Nat) (pre : List Nat) (ps : List Nat) : Prop := ps.length = n ∧ ∀ j, j < n → ps[j]? = some (Sm (fun i => if free i = true then (succ i).count j else 0) k + pre.count j)
def F1 (free : Nat → Bool) (k : Nat) : Nat := Sm (fun i => if free i = true then 1 else 0) k
theorem F1_le (free : Nat → Bool) (k : Nat) : F1 free k ≤ k := by
  have := Sm_le (n := k) (b := 1) (f := fun i => if free i = true then 1 else 0) (fun i _ => by split <;> omega)
  unfold F1
  rw [Nat.one_mul] at this
  exact this
section
variable {n : Nat} {free : Nat → Bool} {succ : Nat → List Nat} {k : Nat} {ps : List Nat}
theorem E1.start : E1 n free succ 0 [] (List.replicate n 0) := ⟨by simp, fun j hj => by simp [Sm, hj]⟩
theorem E1.skip (h : E1 n free succ k [] ps) (hf : free k = false) : E1 n free succ (k + 1) [] ps := ⟨h.1, fun j hj => by rw [h.2 j hj, Sm, hf]; simp⟩
theorem E1.next (h : E1 n free succ k (succ k) ps) (hf : free k = true) : E1 n free succ (k + 1) [] ps := ⟨h.1, fun j hj => by rw [h.2 j hj, Sm, hf]; simp⟩
theorem E1.edge {x : Nat} {pre : List Nat} (h : E1 n free succ k pre ps) (hx : x < n) (h2 : ∀ i, (succ i).length ≤ 2) (h3 : pre.length ≤ 2) : ∃ p, ps[x]? = some p ∧ p ≤ 2 * k + 2 ∧ E1 n free succ k (pre ++ [x]) (ps.set x (p + 1)) := by
  have e1 := Sm_le (n := k) (b := 2) (f := fun i => if free i = true then (succ i).count x else 0) (fun i _ => by
    have := List.count_le_length (a := x) (l := succ i)
    have := h2 i
    split <;> omega)
  have e2 := List.count_le_length (a := x) (l := pre)
  refine ⟨_, h.2 x hx, by omega, by simp [h.1], fun j hj => ?_⟩
  by_cases hjx : j = x
  · subst hjx
    rw [List.getElem?_set_self (by rw [h.1]; exact hj), List.count_append]
    simp
    omega
  · rw [List.getElem?_set_ne (fun e => hjx e.symm), h.2 j hj, List.count_append, List.count_cons_of_ne (fun e => hjx e.symm)]
    simp
end
theorem kahn_bound {n : Nat} {free : Nat → Bool} {succ : Nat → List Nat} {gone : Nat → Bool} {σ : Nat → Nat} {T x p : Nat} {pend ps work : List Nat} (h : Kahn n free succ gone σ T pend ps work) (hx : x < n) (h2 : ∀ i, (succ i).length ≤ 2) (h3 : pend.length ≤ 2) (hp : ps[x]? = some p) : p ≤ 2 * n + 2 := by
  have e1 := Sm_le (n := n) (b := 2) (f := fun i => if (free i && !gone i) = true then (succ i).count x else 0) (fun i _ => by
    have := List.count_le_length (a := x) (l := succ i)
    have := h2 i
    split <;> omega)
  have e2 := List.count_le_length (a := x) (l := pend)
  have e3 := (h.cnt x hx).symm.trans hp
  simp only [Option.some.injEq] at e3
  unfold inE at e3
  omega
set_option maxRecDepth 100000 in
set_option maxHeartbeats 8000000 in
theorem c_hasFreeCycle (r : Rc) (u0 u1 u3 v : Value) (w : World) (B : Nat) (hv : IsInsl w B r.instrs v) (hB : B ≤ w.heap.size) (hm : r.instrs.length ≤ 20000) (hs : SuccOk r) :
    Calls Tryz.prog 23 #[.agg #[u0, u1, v, u3]] w fun e w' => ∃ b, e = .returned (.bool b) ∧ (b = true ↔ ¬ Acyc r.instrs.length r.free r.succ) ∧ Below w.heap.size w w' := by
  obtain ⟨n, hn⟩ : ∃ n, n = r.instrs.length := ⟨_, rfl⟩
  have HV := Lib.hid hv
  obtain ⟨A, c, rfl, _⟩ := hv
  have HSU : Hid (∀ (W : World) (_ : Below w.heap.size w W) (i : Nat) (_ : i < n), Calls Tryz.prog 29 #[.agg #[u0, u1, .slice A n c, u3], .int .i64 i] W (RetRow ((r.succ i).map fun (q : Nat) => (q : Int)) W)) := Lib.hid (fun W hW i hi => by
    rw [hn] at hi ⊢
    have := c_successorsR u0 u1 u3 r.instrs _ i W B (HV.out.below hW hB) (Nat.le_trans hB hW.size) hi (Nat.le_trans hm (by omega))
    rw [(hs i hi).1] at this
    exact this)
  have HIN : Hid (∀ (W : World) (_ : Below w.heap.size w W) (k : Nat) (_ : k < n), ∃ g o x, A = some ⟨g, o, none⟩ ∧ g < B ∧ InsAt W B x g (o + k * 15) ∧ r.free k = !oTick x.op) := Lib.hid (fun W hW k hk => by
    obtain ⟨g, o, hk', hA, hg, hI⟩ := HV.out.at_ (w' := W) (fun b hb => hW.block b (by omega)) (by rw [← hn]; exact hk)
    exact ⟨g, o, _, hA, hg, hI, by simp [Rc.free, hk']⟩)
  have HSL : Hid (∀ i, i < n → ∀ j ∈ r.succ i, j < n) := Lib.hid (fun i hi j hj => by rw [hn] at hi ⊢; exact (hs i hi).2 j hj)
  have HLE : Hid (∀ i, (r.succ i).length ≤ 2) := Lib.hid (fun i => by
    unfold Rc.succ
    split
    · simp
    · split
      · simp
      · split
        · simp
        · split
          · split
            · simp
            · split <;> simp
          · simp)
  have hmk := fun (W : World) => made_ints W n (by omega)
  have HST := Lib.hid (fc_start w u0 u1 (.slice A n c) u3 n)
  rw [← hn]
  rw [← hn] at hm
  clear hs HV hn
  generalize r.free = free, r.succ = succ at *
  go_enter Tryz.func23, Tryz.ntmps23
  go_wp2
  generalize hW0 : (w.alloc _).alloc _ = W0 at *
  have HF0 := HST
  clear hW0 HST hmk
  go_loopw [4, 22] (fun f s wr => ∃ (k : Nat) (ps : List Nat), k ≤ n ∧ s = .int .i64 k ∧ f = .int .i64 (F1 free k : Nat) ∧ Hid (E1 n free succ k [] ps) ∧ Hid (Fc w u0 u1 (.slice A n c) u3 ps wr)) (fun _ s _ => n - (intOf s).toNat)
  case atStart => exact ⟨0, List.replicate n 0, by omega, rfl, rfl, Lib.hid E1.start, HF0⟩
  case round =>
    clear HF0
    obtain ⟨k, ps, hk, rfl, rfl, HE, HF⟩ := hrel
    by_cases hkn : k < n
    · obtain ⟨g, o, x, rfl, hg, hI, hfx⟩ := HIN.out wr HF.out.2.2.1 k hkn
      obtain ⟨A1, c1, TA, tc, EA, ec, hcs, _, _⟩ := hI
      have hk0 : (0 : Int) ≤ (k : Int) := by omega
      have hk1 : (k : Int) < (n : Int) := by omega
      have hfl := F1_le free k
      have HFX := Lib.hid hfx
      clear hfx
      obtain ⟨h0, h1, h2, h3, h4, h5, h6, h7, h8, h9, h10, h11, h12, h13, h14⟩ := hcs
      generalize x.op = op, x.dst = dst, x.a = xa, x.b = xb, x.imm = imm, x.name = nm, x.args.length = la, x.ty.kind = tk, x.ty.name = tn, x.ty.index = ti, x.ty.args.length = tl, x.ck = ck, x.ci = xci, x.cs = xcs, x.ce = xce at *
      go_wp2_with fail
      refine (c_usesTick op _ _ _ _ _ _ _ _ _ _ _ _ _ _ _).mono ?_
      rintro e w1 ⟨rfl, hb1⟩
      have hbw1 := below_step (below_new wr _) hb1
      have HF1 := Lib.hid (HF.out.step hbw1)
      cases hot : oTick op
      · have hfk : free k = true := by rw [HFX.out, hot]; rfl
        have HFK := Lib.hid hfk
        clear hfk HFX hot h0 h1 h2 h3 h4 h5 h6 h7 h8 h9 h10 h11 h12 h13 h14 hb1 HF
        have hbz := HF1.out.2.2.1
        have hsz := HF1.out.2.2.2
        obtain ⟨b0, b1, b2, b3⟩ := HF1.out.1
        go_wp2_with fail
        clear b0 b1 b2 b3
        refine (HSU.out w1 hbz k hkn).mono ?_
        rintro e w2 ⟨v2, rfl, hres, hb2⟩
        obtain ⟨A2, c2, rfl, hed⟩ := hres.form
        have HED : Hid (Edg A2 w1.heap.size w2.heap.size ((succ k).map fun (q : Nat) => (q : Int)) w2) := Lib.hid (Edg.made hed)
        have HF2 := Lib.hid (HF1.out.step hb2)
        clear hres hed hb2 HF1
        generalize hL : w1.heap.size = L at *
        generalize hL2 : w2.heap.size = L2 at *
        clear hL hL2
        rw [List.length_map]
        generalize hml : (succ k).length = m at *
        have HML := Lib.hid hml
        have hm2 : m ≤ 2 := by rw [← hml]; exact HLE.out k
        clear hml
        go_wp2
        obtain ⟨wo, rfl⟩ : ∃ wo : World, wo = wr := ⟨_, rfl⟩
        go_loopw [35] (fun s wr2 => ∃ (q : Nat) (ps2 : List Nat), q ≤ m ∧ s = .int .i64 q ∧ Hid (E1 n free succ k ((succ k).take q) ps2) ∧ Hid (Fc w u0 u1 (.slice (some ⟨g, o, none⟩) n c) u3 ps2 wr2) ∧ Hid (Edg A2 L L2 ((succ k).map fun (q : Nat) => (q : Int)) wr2)) (fun s _ => m - (intOf s).toNat)
        case atStart => exact ⟨0, ps, by omega, rfl, Lib.hid (by simpa using HE.out), HF2, HED⟩
        case round =>
          clear HED HF2
          obtain ⟨q, ps2, hq, rfl, HE2, HF2, HED⟩ := hrel
          by_cases hqm : q < m
          · have hql : q < (succ k).length := by rw [HML.out]; exact hqm
            obtain ⟨g2, rfl, hg2, hcell⟩ := HED.out.get hql
            have hxn := HSL.out k hkn _ (List.getElem_mem hql)
            obtain ⟨p, hp, hpb, hE3⟩ := HE2.out.edge hxn HLE.out (by simp; omega)
            have HE3 : Hid (E1 n free succ k ((succ k).take (q + 1)) (ps2.set (succ k)[q] (p + 1))) := Lib.hid (by rw [List.take_succ_eq_append_getElem hql]; exact hE3)
            have hpc := HF2.out.2.1.cell (natI_get hp)
            have hpf := HF2.out.2.1.free (succ k)[q]
            have HFS : Hid (∀ y : Int, y = ((p + 1 : Nat) : Int) → Fc w u0 u1 (.slice (some ⟨g, o, none⟩) n c) u3 (ps2.set (succ k)[q] (p + 1)) (wr.setCell ⟨w.heap.size + 1, (succ k)[q], none⟩ (.int .i64 y))) := Lib.hid (fun y hy => HF2.out.set' _ _ hy)
            have HDS : Hid (∀ y : Int, Edg (some ⟨g2, 0, none⟩) L L2 ((succ k).map fun (q : Nat) => (q : Int)) (wr.setCell ⟨w.heap.size + 1, (succ k)[q], none⟩ (.int .i64 y))) := Lib.hid (fun y => HED.out.set (by omega) _ _)
            clear HED HF2 HE2 hp hE3
            generalize (succ k)[q] = x at *
            have hx0 : (0 : Int) ≤ (x : Int) := by omega
            have hx1 : (x : Int) < (n : Int) := by omega
            have hq0 : (0 : Int) ≤ (q : Int) := by omega
            have hq1 : (q : Int) < (m : Int) := by omega
            have hp0 : (0 : Int) ≤ (p : Int) := by omega
            have hp1 : (p : Int) ≤ 40002 := by omega
            go_wp2
            go_roundw
            case rel => exact ⟨q + 1, _, by omega, by go_num, HE3, Lib.hid (HFS.out _ (by omega)), Lib.hid (HDS.out _)⟩
            case measure => simp [intOf]; omega
          · obtain rfl : q = m := by omega
            have HE3 : Hid (E1 n free succ (k + 1) [] ps2) := Lib.hid (by
              have h1 := HE2.out
              rw [List.take_of_length_le (by rw [HML.out]; exact Nat.le_refl _)] at h1
              exact h1.next HFK.out)
            clear HE2 HED HML
            go_wp2
            go_roundw
            case rel => exact ⟨k + 1, ps2, by omega, by go_num, by rw [show F1 free (k + 1) = F1 free k + 1 from by simp [F1, Sm, HFK.out]]; go_num, HE3, HF2⟩
            case measure => simp [intOf]; omega
      · have HFK : Hid (free k = false) := Lib.hid (by rw [HFX.out, hot]; rfl)
        clear HFX hot
        go_wp2_with fail
        go_roundw
        case rel => exact ⟨k + 1, ps, by omega, by go_num, by rw [show F1 free (k + 1) = F1 free k from by simp [F1, Sm, HFK.out]], Lib.hid (HE.out.skip HFK.out), HF1⟩
        case measure => simp [intOf]; omega
    · have hkk : k = n := by omega
      have HPS : Hid (ps.length = n ∧ ∀ j, j < n → ps[j]? = some (inE n free succ (fun _ => false) j)) := Lib.hid (by
        refine ⟨HE.out.1, fun j hj => ?_⟩
        have := HE.out.2 j hj
        rw [hkk] at this
        rw [this]
        simp [inE])
      have hfk := F1_le free n
      have HLF : Hid (F1 free k = leftE n free (fun _ => false)) := Lib.hid (by rw [hkk]; simp [F1, leftE])
      rw [HLF.out]
      have hle := leftE_le n free (fun _ => false)
      clear HE HLF hfk hk
      have hkk1 : ¬ (k : Int) < (n : Int) := by omega
      obtain ⟨b0, b1, b2, b3⟩ := HF.out.1
      obtain ⟨i0, hi0, hz0, hz1, hz2⟩ := info_parts info_int
      have HI : Hid (i0.zero = some (.int .i64 0) ∧ i0.size = 1 ∧ i0.bytes = 8) := Lib.hid ⟨hz0, hz1, hz2⟩
      have Hi0 := Lib.hid hi0
      clear hz0 hz1 hz2 hi0 hkk hkn
      go_wp2
      clear hkk1 b0 b1 b2 b3
      obtain ⟨wo, rfl⟩ : ∃ wo : World, wo = wr := ⟨_, rfl⟩
      go_loopw [9, 50] (fun v s wr => ∃ (k : Nat), k ≤ n ∧ s = .int .i64 k ∧ Hid (wr.ownsRow (w.heap.size + 2) 3 1 v (wkTo free ps k).length (natI (wkTo free ps k))) ∧ Hid (Fc w u0 u1 (.slice A n c) u3 ps wr)) (fun _ s _ => n - (intOf s).toNat)
      case atStart => exact ⟨0, by omega, rfl, Lib.hid (World.ownsRow_nil _ _ _ _), HF⟩
      case round =>
        clear HF
        obtain ⟨k, hk, rfl, HOWN, HF⟩ := hrel
        by_cases hkn : k < n
        · obtain ⟨g, o, x, rfl, hg, hI, hfx⟩ := HIN.out wr HF.out.2.2.1 k hkn
          obtain ⟨A1, c1, TA, tc, EA, ec, hcs, _, _⟩ := hI
          have hk0 : (0 : Int) ≤ (k : Int) := by omega
          have hk1 : (k : Int) < (n : Int) := by omega
          have hwl := wkTo_len free ps k
          have HFX := Lib.hid hfx
          clear hfx
          obtain ⟨h0, h1, h2, h3, h4, h5, h6, h7, h8, h9, h10, h11, h12, h13, h14⟩ := hcs
          generalize x.op = op, x.dst = dst, x.a = xa, x.b = xb, x.imm = imm, x.name = nm, x.args.length = la, x.ty.kind = tk, x.ty.name = tn, x.ty.index = ti, x.ty.args.length = tl, x.ck = ck, x.ci = xci, x.cs = xcs, x.ce = xce at *
          go_wp2_with fail
          refine (c_usesTick op _ _ _ _ _ _ _ _ _ _ _ _ _ _ _).mono ?_
          rintro e w1 ⟨rfl, hb1⟩
          have hbw1 := below_step (below_new wr _) hb1
          have HF1 := Lib.hid (HF.out.step hbw1)
          have HOWN1 := Lib.hid (own_below HOWN.out hbw1)
          have hsz1 := HF1.out.2.2.2
          have hsz0 : w.heap.size + 2 ≤ w1.heap.size := hsz1
          clear h0 h1 h2 h3 h4 h5 h6 h7 h8 h9 h10 h11 h12 h13 h14 hb1 HF HOWN hbw1
          cases hot : oTick op
          · have hfk : free k = true := by rw [HFX.out, hot]; rfl
            obtain ⟨p, hp⟩ : ∃ p, ps[k]? = some p := ⟨_, HPS.out.2 k hkn⟩
            have hpc := HF1.out.2.1.cell (natI_get hp)
            by_cases hp0 : p = 0
            · subst hp0
              have HWK := Lib.hid (wkTo_yes hfk hp)
              clear hp hfk HFX hot
              go_wp2_with (first
                | (at_builtin; refine wpList_append_rd _ rfl (.tmp 65) (.tmp 67) 22 rfl (w.heap.size + 2) 3 i0 (.int .i64 0) 1 8 Tryz.underlying22 Hi0.out HI.out.1 HI.out.2.1 HI.out.2.2 rfl (by omega) _ (wkTo free ps k).length (natI (wkTo free ps k)) rfl (HOWN1.out.alloc _) (w1.heap.size + 1) (some ⟨w1.heap.size, 0, none⟩) 1 1 [.int .i64 k] rfl (Rd.blk (cs := #[.int .i64 k]) (blk_new _ _) rfl (by omega)) (by simp [Value.oneCell']) (by omega) (by simp; omega) ?_
                   intro v5 w5 hown5 hg5 hat5
                   have HF5 := Lib.hid ((HF1.out.step (below_new _ (.cells #[.int .i64 k] 3))).grown hg5 (own_ge HOWN1.out))
                   have HOWN5 := Lib.hid hown5
                   clear hown5 hg5 hat5))
              go_roundw
              case rel => exact ⟨k + 1, by omega, by go_num, by rw [HWK.out]; exact Lib.hid (by simpa [natI] using HOWN5.out), HF5⟩
              case measure => simp [intOf]; omega
            · have HWK := Lib.hid (wkTo_no (free := free) (ps := ps) (k := k) (.inr (by rw [hp]; simpa using hp0)))
              have kp := beq_f (a := (p : Int)) (b := 0) (by omega)
              clear hp hfk HFX hot
              go_wp2
              go_roundw
              case rel => exact ⟨k + 1, by omega, by go_num, by rw [HWK.out]; exact HOWN1, HF1⟩
              case measure => simp [intOf]; omega
          · have HWK := Lib.hid (wkTo_no (free := free) (ps := ps) (k := k) (.inl (by rw [HFX.out, hot]; rfl)))
            clear HFX hot
            go_wp2
            go_roundw
            case rel => exact ⟨k + 1, by omega, by go_num, by rw [HWK.out]; exact HOWN1, HF1⟩
            case measure => simp [intOf]; omega
        · have hkk : k = n := by omega
          rw [hkk] at HOWN
          have HK := Lib.hid (Kahn.start (free := free) (succ := succ) HPS.out.1 HPS.out.2 (show wkTo free ps n = _ from rfl))
          have hkk1 : ¬ (k : Int) < (n : Int) := by omega
          clear hkk hkn hk HPS
          generalize wkTo free ps n = wk0 at *
          go_wp2
          clear hkk1
          obtain ⟨wp, rfl⟩ : ∃ wp : World, wp = wr := ⟨_, rfl⟩
          go_loopw [4, 9] (fun f v wr => ∃ (gone : Nat → Bool) (σ : Nat → Nat) (T : Nat) (ps wk : List Nat), f = .int .i64 (leftE n free gone : Nat) ∧ Hid (wr.ownsRow (w.heap.size + 2) 3 1 v wk.length (natI wk)) ∧ Hid (Kahn n free succ gone σ T [] ps wk) ∧ Hid (Fc w u0 u1 (.slice A n c) u3 ps wr)) (fun f _ _ => (intOf f).toNat)
          case atStart => exact ⟨_, _, 0, ps, wk0, rfl, HOWN, HK, HF⟩
          case round =>
            clear HOWN HK HF hle
            obtain ⟨gone, σ, T, ps, wk, rfl, HOWN, HK, HF⟩ := hrel
            have hle := leftE_le n free gone
            rcases List.eq_nil_or_concat wk with hwk | ⟨wk', a, hwk⟩
            · subst hwk
              have HD := Lib.hid HK.out.done
              obtain ⟨Av, cv, rfl⟩ := own_zero HOWN.out
              have hbz := HF.out.2.2.1
              clear HK HOWN HF
              generalize leftE n free gone = lf at *
              go_wp2
              go_ret
              refine ⟨_, rfl, ?_, hbz⟩
              rw [← HD.out]
              simp
            · rw [List.concat_eq_append] at hwk
              subst hwk
              obtain ⟨ha, hfa, hga, hK2⟩ := HK.out.pop
              have hlp := leftE_pop ha hfa hga
              have hown0 := HOWN.out
              rw [List.length_append, show [a].length = 1 from rfl, show natI (wk' ++ [a]) = natI wk' ++ [.int .i64 (a : Int)] by simp [natI]] at hown0
              obtain ⟨gw, cap, rfl, ⟨hcap, hcap2⟩, hgw, hcell, hown⟩ := own_pop hown0
              have HK2 := Lib.hid hK2
              have HOWN2 := Lib.hid hown
              have hbz := HF.out.2.2.1
              obtain ⟨b0, b1, b2, b3⟩ := HF.out.1
              clear hK2 hown hown0 HK HOWN hfa hga
              generalize hlf : leftE n free (goneAt gone a) = lf at *
              have HLF := Lib.hid hlf
              clear hlf
              rw [hlp]
              generalize hwl : wk'.length = m at *
              have HWL := Lib.hid hwl
              clear hwl
              go_wp2_with fail
              clear b0 b1 b2 b3 hcell
              refine (HSU.out wr hbz a ha).mono ?_
              rintro e w2 ⟨v2, rfl, hres, hb2⟩
              obtain ⟨A2, c2, rfl, hed⟩ := hres.form
              have HED : Hid (Edg A2 wr.heap.size w2.heap.size ((succ a).map fun (q : Nat) => (q : Int)) w2) := Lib.hid (Edg.made hed)
              have HF2 := Lib.hid (HF.out.step hb2)
              have HOWN3 := Lib.hid (own_below HOWN2.out hb2)
              have hL0 := HF.out.2.2.2
              have hLg := (HOWN2.out.lt gw rfl).2
              have hL12 := hb2.size
              clear hres hed hb2 HF HOWN2 hbz
              generalize hL : wr.heap.size = L at *
              generalize hL2 : w2.heap.size = L2 at *
              have hle2 : L2 ≤ w2.heap.size := Nat.le_of_eq hL2.symm
              clear hL hL2
              rw [List.length_map]
              generalize hml : (succ a).length = m2 at *
              have HML := Lib.hid hml
              have hm2 : m2 ≤ 2 := by rw [← hml]; exact HLE.out a
              clear hml
              go_wp2
              obtain ⟨wq, rfl⟩ : ∃ wq : World, wq = wr := ⟨_, rfl⟩
              go_loopw [9, 90] (fun v s wr => ∃ (q : Nat) (ps wk : List Nat), q ≤ m2 ∧ s = .int .i64 q ∧ Hid (wr.ownsRow (w.heap.size + 2) 3 1 v wk.length (natI wk)) ∧ Hid (Kahn n free succ (goneAt gone a) (fun i => if i = a then T else σ i) (T + 1) ((succ a).drop q) ps wk) ∧ Hid (Fc w u0 u1 (.slice A n c) u3 ps wr) ∧ Hid (Edg A2 L L2 ((succ a).map fun (q : Nat) => (q : Int)) wr) ∧ Hid (∀ kx, v.ownBlock = some kx → kx < L ∨ L2 ≤ kx) ∧ L2 ≤ wr.heap.size) (fun _ s _ => m2 - (intOf s).toNat)
              case atStart => exact ⟨0, ps, wk', by omega, rfl, by rw [HWL.out]; exact HOWN3, Lib.hid (by simpa using HK2.out), HF2, HED, Lib.hid (fun kx h => by cases h; exact .inl hLg), hle2⟩
              case round =>
                clear HED HF2 HOWN3 HK2 hle2
                obtain ⟨q, ps, wk, hq, rfl, HOWN, HK, HF, HED, HOB, hL2⟩ := hrel
                by_cases hqm : q < m2
                · have hql : q < (succ a).length := by rw [HML.out]; exact hqm
                  obtain ⟨g2, rfl, hg2, hcell⟩ := HED.out.get hql
                  have hxn := HSL.out a ha _ (List.getElem_mem hql)
                  have hK' := HK.out
                  rw [List.drop_eq_getElem_cons hql] at hK'
                  obtain ⟨p, hp, hA1, hA2⟩ := hK'.edge hxn
                  have hwb : wk.length ≤ 40000 := Nat.le_trans (nodup_le n wk hK'.nod (fun j hj => ((hK'.mem j).1 hj).1)) (by omega)
                  have hpb := kahn_bound hK' hxn HLE.out (by have := HLE.out a; simp; omega) hp
                  have HA1 := Lib.hid hA1
                  have HA2 := Lib.hid hA2
                  have hpc := HF.out.2.1.cell (natI_get hp)
                  have hpf := HF.out.2.1.free (succ a)[q]
                  have hbz := HF.out.2.2.1
                  have hsz := HF.out.2.2.2
                  have HFS : Hid (∀ y : Int, y = (p : Int) → Fc w u0 u1 (.slice A n c) u3 (ps.set (succ a)[q] p) (wr.setCell ⟨w.heap.size + 1, (succ a)[q], none⟩ (.int .i64 y))) := Lib.hid (fun y hy => HF.out.set' _ _ hy)
                  have HDS : Hid (∀ y : Int, Edg (some ⟨g2, 0, none⟩) L L2 ((succ a).map fun (q : Nat) => (q : Int)) (wr.setCell ⟨w.heap.size + 1, (succ a)[q], none⟩ (.int .i64 y))) := Lib.hid (fun y => HED.out.set (by omega) _ _)
                  have HOS := Lib.hid (fun (y : Int) => own_set (b := w.heap.size + 1) HOWN.out (by omega) (succ a)[q] (.int .i64 y))
                  obtain ⟨b0, b1, b2, b3⟩ := HF.out.1
                  obtain ⟨g, o, y, rfl, hg, hI, hfx⟩ := HIN.out wr hbz _ hxn
                  obtain ⟨A1, c1, TA, tc, EA, ec, hcs, _, _⟩ := hI
                  have HFX := Lib.hid hfx
                  obtain ⟨h0, h1, h2, h3, h4, h5, h6, h7, h8, h9, h10, h11, h12, h13, h14⟩ := hcs
                  clear hfx hA1 hA2 hK' hp HK HED HF HOWN
                  generalize y.op = op, y.dst = dst, y.a = xa, y.b = xb, y.imm = imm, y.name = nm, y.args.length = la, y.ty.kind = tk, y.ty.name = tn, y.ty.index = ti, y.ty.args.length = tl, y.ck = ck, y.ci = xci, y.cs = xcs, y.ce = xce at *
                  generalize (succ a)[q] = x at *
                  have hx0 : (0 : Int) ≤ (x : Int) := by omega
                  have hx1 : (x : Int) < (n : Int) := by omega
                  have hq0 : (0 : Int) ≤ (q : Int) := by omega
                  have hq1 : (q : Int) < (m2 : Int) := by omega
                  have hp0 : (0 : Int) ≤ (p : Int) := by omega
                  have hp1 : (p : Int) ≤ 40002 := by omega
                  have hne : ¬ g = w.heap.size + 1 := by omega
                  by_cases hpz : p = 0
                  · subst hpz
                    go_wp2_with fail
                    have HFS0 := Lib.hid (HFS.out 0 (by simp))
                    have HDS0 := Lib.hid (HDS.out 0)
                    have HOS0 := Lib.hid (HOS.out 0)
                    have hsS : L2 ≤ (wr.setCell ⟨w.heap.size + 1, x, none⟩ (.int .i64 0)).heap.size := by simpa [World.setCell] using hL2
                    generalize wr.setCell ⟨w.heap.size + 1, x, none⟩ (.int .i64 0) = wS at *
                    clear h0 h1 h2 h3 h4 h5 h6 h7 h8 h9 h10 h11 h12 h13 h14 b0 b1 b2 b3 hpc hpf hcell HFS HDS HOS
                    refine (c_usesTick op _ _ _ _ _ _ _ _ _ _ _ _ _ _ _).mono ?_
                    rintro e w3 ⟨rfl, hb3⟩
                    have HF3 := Lib.hid (HFS0.out.step hb3)
                    have HD3 := Lib.hid (HDS0.out.step hb3)
                    have HO3 := Lib.hid (own_below HOS0.out hb3)
                    have hs3 : L2 ≤ w3.heap.size := Nat.le_trans hsS hb3.size
                    have hsz3 : w.heap.size + 2 ≤ w3.heap.size := HF3.out.2.2.2
                    clear hb3 HFS0 HDS0 HOS0
                    cases hot : oTick op
                    · have HK4 := Lib.hid (HA2.out trivial (by rw [HFX.out, hot]; rfl))
                      clear HFX hot HA1 HA2
                      go_wp2_with (first
                        | (at_builtin; refine wpList_append_rd _ rfl (.tmp 114) (.tmp 116) 22 rfl (w.heap.size + 2) 3 i0 (.int .i64 0) 1 8 Tryz.underlying22 Hi0.out HI.out.1 HI.out.2.1 HI.out.2.2 rfl (by omega) _ wk.length (natI wk) rfl (HO3.out.alloc _) (w3.heap.size + 1) (some ⟨w3.heap.size, 0, none⟩) 1 1 [.int .i64 x] rfl (Rd.blk (cs := #[.int .i64 x]) (blk_new _ _) rfl (by omega)) (by simp [Value.oneCell']) (by omega) (by simp; omega) ?_
                           intro v5 w5 hown5 hg5 hat5
                           have HF5 := Lib.hid ((HF3.out.step (below_new _ (.cells #[.int .i64 x] 3))).grown hg5 (own_ge HO3.out))
                           have HD5 := Lib.hid ((HD3.out.step (below_new _ (.cells #[.int .i64 x] 3))).grown hg5 HOB.out)
                           have hs5 : L2 ≤ w5.heap.size := Nat.le_trans hs3 (Nat.le_trans (by simp) hg5.size)
                           have HB5 : Hid (∀ kx, v5.ownBlock = some kx → kx < L ∨ L2 ≤ kx) := Lib.hid (fun kx hkx => by
                             rcases hat5 with h | h
                             · exact HOB.out kx (h.symm.trans hkx)
                             · rw [h] at hkx; cases hkx; right; simp; omega)
                           have HO5 := Lib.hid hown5
                           clear hown5 hg5 hat5))
                      go_roundw
                      case rel => exact ⟨q + 1, _, wk ++ [x], by omega, by go_num, Lib.hid (by simpa [natI] using HO5.out), HK4, HF5, HD5, HB5, hs5⟩
                      case measure => simp [intOf]; omega
                    · have HK4 := Lib.hid (HA1.out (.inr (by rw [HFX.out, hot]; rfl)))
                      clear HFX hot HA1 HA2
                      go_wp2
                      go_roundw
                      case rel => exact ⟨q + 1, _, wk, by omega, by go_num, HO3, HK4, HF3, HD3, HOB, hs3⟩
                      case measure => simp [intOf]; omega
                  · have kp := beq_f (a := (p : Int)) (b := 0) (by omega)
                    go_wp2
                    go_roundw
                    case rel => exact ⟨q + 1, _, wk, by omega, by go_num, Lib.hid (HOS.out _), Lib.hid (HA1.out (.inl hpz)), Lib.hid (HFS.out _ (by omega)), Lib.hid (HDS.out _), HOB, by simpa [World.setCell] using hL2⟩
                    case measure => simp [intOf]; omega
                · have hqq : q = m2 := by omega
                  have HK3 : Hid (Kahn n free succ (goneAt gone a) (fun i => if i = a then T else σ i) (T + 1) [] ps wk) := Lib.hid (by
                    have h1 := HK.out
                    rw [List.drop_eq_nil_of_le (by rw [HML.out]; omega)] at h1
                    exact h1)
                  have hqq1 : ¬ (q : Int) < (m2 : Int) := by omega
                  clear HK HED HOB hqq hqm hq
                  go_wp2
                  go_roundw
                  case rel => exact ⟨goneAt gone a, _, T + 1, ps, wk, by rw [HLF.out]; go_num, HOWN, HK3, HF⟩
                  case measure => simp [intOf]; omega
end Go.Proofs.YtdjldmpfginkdaaGreatDoor
