/- The abstract machine on trees, part J. No statement of the seat is proved here. -/
import Derived.Shelf.Spec.SlicesInsert
import Derived.Shelf.Spec.SlicesInsertGrow
import Derived.KernelRfl
import Derived.Test.YtmciehdmmnkdhaaGreatDoorTmI
set_option linter.unusedVariables false
set_option linter.unusedSimpArgs false
set_option linter.constructorNameAsVariable false
set_option linter.unusedSectionVars false
set_option linter.deprecated false
set_option linter.unnecessarySimpa false
/- slices.Insert at []int in place, where the elements may lie in the row's own block, ahead of it: the shelf's text, turned. No statement of the seat is proved here. -/
set_option linter.unusedVariables false
set_option linter.unusedSimpArgs false
namespace Tm
open Go Go.Proofs Go.Shelf Go.RowKit Go.Lib
theorem run_overlaps1 {P : Program} (w : World) (tS tR e : TypeId) (ht : P.underlying tS = some (.slice e)) (hz : ∀ w, (Go.sizeOf e).run P w = .ok 1 w)
    (a b : Addr) (la ca lb cb : Nat) (hne : a.block ≠ b.block ∨ a.off + la ≤ b.off) (tA tB : TypeId) (kA kB : Nat)
    (hsa : w.shape? a.block = some (tA, kA)) (hsb : w.shape? b.block = some (tB, kB)) (hkA : kA ≠ 0)
    (hfb : w.frozen? b = false) (hfe : w.frozen? { block := b.block, off := kB } = false) :
    (Extern.SlicesOverlaps.overlaps #[tS, tS] #[tR] #[.slice (some a) la ca, .slice (some b) lb cb]).run P w = .ok (.bool false) w := by
  change Sem.run P (α := Value) (do
    let some t := (#[tS, tS] : Array TypeId)[0]? | stuck "slices.overlaps: no parameter types"
    let .slice elem ← underlying t | stuck "slices.overlaps: slice type expected"
    let size ← sizeOf elem
    match (some a : Option Addr), (some b : Option Addr) with
    | some a, some b =>
      if la = 0 ∨ lb = 0 ∨ size = 0 then pure (Value.bool false)
      else if a.block != b.block && (← frozen a) && (← frozen b) then unsupported .addressObserved
      else do
        if a.block != b.block then do
          noView a; noView b
          if ← mayBeOne a b then return Value.bool ((← choose (.extern "sameAddr.stringBytes" 2)) == 1)
        pure (Value.bool (a.block == b.block && a.off < b.off + lb * size && b.off < a.off + la * size))
    | _, _ => pure (Value.bool false)) w = _
  by_cases h0 : la = 0 ∨ lb = 0
  · rcases h0 with h0 | h0 <;> simp [_root_.Go.run_underlying ht, hz, h0]
  · have h0' : ¬ (la = 0 ∨ lb = 0 ∨ (1 : Nat) = 0) := by omega
    cases kA with
    | zero => exact absurd rfl hkA
    | succ kA =>
      by_cases hbl : a.block = b.block
      · have h1 : (a.block != b.block) = false := by simpa using hbl
        have h2 : a.off + la ≤ b.off := hne.resolve_left (by simp [hbl])
        have h3 : ¬ (b.off < a.off + la) := by omega
        simp [_root_.Go.run_underlying ht, hz, h0', h1, frozen, Sem.run, h3]
      · have hnb : (a.block != b.block) = true := by simpa using hbl
        have hnb' : (a.block == b.block) = false := by simpa using hbl
        cases hfa : w.frozen? a <;> cases hfe2 : w.frozen? { block := a.block, off := kA + 1 } <;>
          simp [_root_.Go.run_underlying ht, hz, h0', hnb, hnb', frozen, noView, viewAt, mayBeOne, stringish, shape, Sem.run, hsa, hsb, hfa, hfb, hfe, hfe2]
variable {P : Program} {ρ : Ren}
set_option maxHeartbeats 4000000 in
set_option maxRecDepth 100000 in
theorem ins_shift (L : Lays2.n21 P ρ) (b off n c i vb voff m vc : Nat) (cs vs : List Value) (w : World) (hi : i < n) (hm : 0 < m) (hroom : n + m ≤ c) (hc63 : c ≤ 9223372036854775807) (hvb : vb ≠ b ∨ voff + m ≤ off)
    (hcl : cs.length = n) (hvl : vs.length = m)
    (hcs : ∀ j v, cs[j]? = some v → w.cell? ⟨b, off + j, none⟩ = some v) (hsp : ∀ j, j < n + m → (w.cell? ⟨b, off + j, none⟩).isSome = true) (hfz : ∀ j, j < n + m → w.frozen? ⟨b, off + j, none⟩ = false)
    (hvs : ∀ j v, vs[j]? = some v → w.cell? ⟨vb, voff + j, none⟩ = some v) (h1c : ∀ v ∈ cs, v.oneCell' = true) (h1v : ∀ v ∈ vs, v.oneCell' = true)
    (tA tB : TypeId) (kA kB : Nat) (hsa : w.shape? vb = some (tA, kA)) (hsb : w.shape? b = some (tB, kB)) (hkA : kA ≠ 0) (hfe : w.frozen? ⟨b, kB, none⟩ = false) :
    Calls P (ρ.f 21) #[.slice (some ⟨b, off, none⟩) n c, .int .i64 i, .slice (some ⟨vb, voff, none⟩) m vc] w fun e w' =>
      e = .returned (.slice (some ⟨b, off, none⟩) (n + m) c) ∧ w' = (w.drew.setCells b (off + (i + m)) (cs.drop i)).setCells b (off + i) vs := by
  have t0 := L.t0; have a0 := L.a0; have z0 := L.z0; have v0 := L.v0; have t3 := L.t3; have a3 := L.a3; have z3 := L.z3; have v3 := L.v3; have t4 := L.t4; have a4 := L.a4; have z4 := L.z4; have v4 := L.v4; have t22 := L.t22; have a22 := L.a22; have z22 := L.z22; have v22 := L.v22
  have u0 := _root_.Go.run_underlying L.t0; have u3 := _root_.Go.run_underlying L.t3; have u4 := _root_.Go.run_underlying L.t4; have u22 := _root_.Go.run_underlying L.t22
  have hz1 : ¬ ((m : Int) = 0) := by omega
  have hz2 : ¬ ((i : Int) = (n : Int)) := by omega
  have hsz : (P.info? (ρ.t 3)).map (·.size) = some 1 := by
    obtain ⟨i0, hi0, h0, h1, h2⟩ := info_parts L.i3
    rw [hi0]; simp [h1]
  have hov : ∀ lb cb, (callFunc (ρ.f 27) #[.slice (some ⟨vb, voff, none⟩) m vc, .slice (some ⟨b, off + (i + m), none⟩) lb cb]).run P w = .ok (.value (.bool false)) w := fun lb cb => by
    rw [run_callFunc_extern L.f27 (by kernel_rfl) (by kernel_rfl) (by kernel_rfl) (e := Extern.SlicesOverlaps.overlaps #[(ρ.t 22), (ρ.t 22)] #[(ρ.t 4)]) (by kernel_rfl),
      run_overlaps1 w (ρ.t 22) (ρ.t 4) (ρ.t 3) L.t22 L.z3 ⟨vb, voff, none⟩ ⟨b, off + (i + m), none⟩ m vc lb cb (hvb.imp id fun h => by show voff + m ≤ off + (i + m); omega) tA tB kA kB hsa hsb hkA (hfz _ (by omega)) hfe]
    rfl
  have hdl : (cs.drop i).length = n - i := by rw [List.length_drop, hcl]
  have mixed := L.mixed
  have hw1 : IntKind.i64.wrap ((i : Int) + (m : Int)) = (i : Int) + (m : Int) := by rw [IntKind.wrap_i64]; omega
  have hb1 : (0 : Int) ≤ (i : Int) + (m : Int) := by omega
  have hin : i ≤ n := by omega
  have htn : ((i : Int) + (m : Int)).toNat = i + m := by omega
  have hb2 : ¬ (c = i + m) := by omega
  have hb3 : (i : Int) ≤ (n : Int) + (m : Int) := by omega
  have hb4 : ¬ (c = i) := by omega
  have hcp1 : ∀ ty dc sc, (Builtin.copy_ #[(ρ.t 22), (ρ.t 22)] ty #[.slice (some ⟨b, off + (i + m), none⟩) (n + m - (i + m)) dc, .slice (some ⟨b, off + i, none⟩) (n + m - i) sc]).run P w.drew = .ok (goInt (cs.drop i).length) (w.drew.setCells b (off + (i + m)) (cs.drop i)) := fun ty dc sc =>
    run_copy_cells w.drew _ _ ty (ρ.t 3) b (off + (i + m)) (n + m - (i + m)) dc ⟨b, off + i, none⟩ (n + m - i) sc (cs.drop i) L.t22 hsz (by rw [hdl]; simp only [Nat.min_def]; split <;> omega)
      (fun j v hj => by rw [Addr.add_lit, Nat.add_assoc]; exact hcs (i + j) v (by rwa [List.getElem?_drop] at hj))
      (fun j hj => by rw [Nat.add_assoc]; exact hsp _ (by omega)) (fun j hj => by rw [Nat.add_assoc]; exact hfz _ (by omega)) (fun v hv => h1c v (List.mem_of_mem_drop hv))
  obtain ⟨W1, hW1⟩ : ∃ W1, W1 = w.drew.setCells b (off + (i + m)) (cs.drop i) := ⟨_, rfl⟩
  have hsp1 : ∀ k, k < n + m → (W1.cell? ⟨b, off + k, none⟩).isSome = true := fun k hk => by
    rw [hW1]
    exact isSome_setCells b _ _ _ (fun j hj => by rw [Nat.add_assoc]; exact hsp _ (by omega)) _ (hsp k hk)
  have hcp2 : ∀ (W : World), (∀ x, W.cell? x = W1.cell? x) → (∀ x, W.frozen? x = W1.frozen? x) → ∀ ty dc, (Builtin.copy_ #[(ρ.t 22), (ρ.t 22)] ty #[.slice (some ⟨b, off + i, none⟩) (n + m - i) dc, .slice (some ⟨vb, voff, none⟩) m vc]).run P W = .ok (goInt vs.length) (W.setCells b (off + i) vs) := fun W hWc hWf ty dc =>
    run_copy_cells W _ _ ty (ρ.t 3) b (off + i) (n + m - i) dc ⟨vb, voff, none⟩ m vc vs L.t22 hsz (by rw [hvl]; simp only [Nat.min_def]; split <;> omega)
      (fun j v hj => by
        rw [Addr.add_lit, hWc, hW1, World.cell?_setCells_out b _ _ _ _ (fun h _ => by
          rcases hvb with hvb | hvb
          · exact absurd h hvb
          · left; show voff + j < off + (i + m); have := (List.getElem?_eq_some_iff.1 hj).1; omega)]
        exact hvs j v hj)
      (fun j hj => by rw [hWc, Nat.add_assoc]; exact hsp1 _ (by omega)) (fun j hj => by rw [hWf, hW1, World.frozen?_setCells, Nat.add_assoc]; exact hfz _ (by omega)) h1v
  rw [← hW1] at hcp1
  go_enter L.f21, Body2.n21_ntmps ρ
  go_wp2_with (simp only [hov])
  go_region_law_o (refine step_copy_runI rfl _ _ (ρ.t 22) (ρ.t 22) rfl _ _ (by simp [Act.eval, Act.put]) (by simp [Act.eval, Act.put]) (hcp1 _ _ _) ?_)
  go_wp2_with (at_builtin; refine wpList_copy_runI _ rfl _ _ (ρ.t 22) (ρ.t 22) rfl _ _ rfl rfl (hcp2 _ (fun _ => rfl) (fun _ => rfl) _ _) ?_)
  go_ret
  first | exact ⟨rfl, rfl⟩ | exact ⟨rfl, by rw [hW1]⟩
end Tm
/- slices.Insert: a row with elements put in, in place or in a new block. No statement of the seat is proved here. -/
namespace Tm
open Go
set_option linter.unusedVariables false
set_option linter.unusedSimpArgs false
def setMany : List Value → Nat → Array Value → Array Value
  | [], _, cur => cur
  | v :: vs, o, cur => setMany vs (o + 1) (cur.setIfInBounds o v)
theorem setMany_list : ∀ (vs : List Value) (o : Nat) (cur : Array Value), o + vs.length ≤ cur.size → (setMany vs o cur).toList = cur.toList.take o ++ vs ++ cur.toList.drop (o + vs.length)
  | [], o, cur, h => by simp [setMany]
  | v :: vs, o, cur, h => by
    simp only [List.length_cons] at h
    rw [setMany, setMany_list vs (o + 1) _ (by simp; omega)]
    have h1 : (cur.setIfInBounds o v).toList = cur.toList.set o v := by simp
    rw [h1]
    have ho : o < cur.toList.length := by simp; omega
    rw [List.take_set, List.drop_set_of_lt (by omega)]
    have : (cur.toList.take (o + 1)).set o v = cur.toList.take o ++ [v] := by
      rw [List.take_succ_eq_append_getElem ho, List.set_append_right _ _ (by simp; omega)]
      have h0 : o - (cur.toList.take o).length = 0 := by simp; omega
      rw [h0]
      rfl
    rw [this]
    simp [Nat.add_assoc, Nat.add_comm 1]
theorem setMany_size : ∀ (vs : List Value) (o : Nat) (cur : Array Value), (setMany vs o cur).size = cur.size
  | [], _, _ => rfl
  | v :: vs, o, cur => by rw [setMany, setMany_size vs]; simp
theorem heap_setCells_at {b : Nat} {e : TypeId} {fr : Nat × Nat} : ∀ (vs : List Value) (o : Nat) (w : World) (cur : Array Value), w.heap[b]? = some (.cells cur e fr) → (w.setCells b o vs).heap[b]? = some (.cells (setMany vs o cur) e fr)
  | [], _, _, _, h => h
  | v :: vs, o, w, cur, h => by
    rw [World.setCells, setMany]
    refine heap_setCells_at vs (o + 1) _ _ ?_
    simp [World.setCell, Array.getElem?_modify, h]
/-- Nothing has changed but block b. -/
structure Fr (b : Nat) (w w' : World) : Prop where
  os : w'.os = w.os
  tape : w'.tape = w.tape
  out : w'.output = w.output
  size : w.heap.size ≤ w'.heap.size
  same : ∀ k, k ≠ b → k < w.heap.size → w'.heap[k]? = w.heap[k]?
theorem Fr.refl (b : Nat) (w : World) : Fr b w w := ⟨rfl, rfl, rfl, Nat.le_refl _, fun _ _ _ => rfl⟩
theorem Fr.trans {b : Nat} {x y z : World} (h : Fr b x y) (k : Fr b y z) : Fr b x z := ⟨k.os.trans h.os, k.tape.trans h.tape, k.out.trans h.out, Nat.le_trans h.size k.size, fun i hi hl => (k.same i hi (Nat.lt_of_lt_of_le hl h.size)).trans (h.same i hi hl)⟩
theorem Fr.drew (b : Nat) (w : World) : Fr b w w.drew := ⟨rfl, rfl, rfl, Nat.le_refl _, fun _ _ _ => rfl⟩
theorem Fr.alloc (b : Nat) (w : World) (o : Obj) : Fr b w (w.alloc o) := ⟨rfl, rfl, rfl, by simp, fun k _ hk => RowKit.Below.heap_alloc _ _ _ hk⟩
theorem Fr.setCells {b : Nat} : ∀ (vs : List Value) (o : Nat) (w : World), Fr b w (w.setCells b o vs)
  | [], _, w => Fr.refl b w
  | v :: vs, o, w => by
    rw [World.setCells]
    have h1 : Fr b w (w.setCell ⟨b, o, none⟩ v) := ⟨rfl, rfl, rfl, by simp [World.setCell], fun k hk _ => RowKit.Below.heap_setCell _ _ _ _ hk⟩
    exact h1.trans (Fr.setCells vs (o + 1) _)
section
variable {I : Inj} {M : Mem} {h : Heap} {w' : World} {k : Nat}
theorem fr_ext {b : Nat} {cs : List Value} (hF : Fr b M.w w') (hw : ∀ b, M.fz b ≤ (cellsOf M.w b).length) (hlo : M.lo ≤ b) (hlo2 : M.lo ≤ M.w.heap.size) (hc : cellsOf w' b = cs) (hf : cs.take (M.fz b) = (cellsOf M.w b).take (M.fz b)) (hr : ∀ o, M.w.heap[b]? = some o → isRec o = false) : Ext M ⟨w', M.fz, M.lo⟩ := by
  refine ⟨rfl, hF.os, hF.tape, hF.out, hF.size, fun b' hb' => hF.same b' (by omega) (by omega), fun _ => Nat.le_refl _, fun _ _ => rfl, fun b' => ?_, fun b' o h1 h2 => ?_⟩
  · by_cases hb : b' = b
    · subst hb; show (cellsOf w' b').take _ = _; rw [hc]; exact hf
    · by_cases hl : b' < M.w.heap.size
      · show (cellsOf w' b').take _ = _
        unfold cellsOf; rw [hF.same b' hb hl]
      · have := hw b'
        rw [cellsOf_none (by omega)] at this
        have h0 : M.fz b' = 0 := by simpa using this
        rw [h0]; rfl
  · by_cases hb : b' = b
    · subst hb; rw [hr o h1] at h2; cases h2
    · exact (hF.same b' hb (Array.getElem?_eq_some_iff.1 h1).1).trans h1
theorem inplace {a : Nat} {q : Pl} {l L : List D} {c c2 : Array Value} {el : TypeId} (hH : RH I M h) (hk : I k = none) (hob : h.get a = some (.row 1 l false)) (hq : I a = some q) (hF : Fr q.b M.w w') (h1 : M.w.heap[q.b]? = some (.cells c el (0, 0))) (h2 : w'.heap[q.b]? = some (.cells c2 el (0, 0))) (hs : c2.size = c.size) (hp : c2.toList.take q.o = c.toList.take q.o)
    (hL : RRow M.w M.fz 1 L (c2.toList.drop q.o)) (hLl : L.length ≤ q.c) : Ext M ⟨w', M.fz, M.lo⟩ ∧ RH (I.set k ⟨q.b, q.o, q.c, 1⟩) ⟨w', M.fz, M.lo⟩ ((h.del a).set k (.row 1 L false)) := by
  obtain ⟨o1, o2, hro⟩ := hH.ob a _ q hob hq
  simp only [RO] at hro
  obtain ⟨f0, fs, c', el', f1, f2, f3, f4, f5⟩ := hro
  rw [h1] at f1
  simp only [Option.some.injEq, Obj.cells.injEq, and_true] at f1
  obtain ⟨rfl, rfl⟩ := f1
  have hfz : M.fz q.b ≤ q.o := by simpa using f5
  have hcc : cellsOf M.w q.b = c.toList := by unfold cellsOf; rw [h1]
  have hc2 : cellsOf w' q.b = c2.toList := by unfold cellsOf; rw [h2]
  have hx : Ext M ⟨w', M.fz, M.lo⟩ := fr_ext hF hH.wf o1 hH.lo hc2 (by
    rw [hcc]
    have := congrArg (List.take (M.fz q.b)) hp
    rwa [List.take_take, List.take_take, Nat.min_eq_left hfz] at this) (fun o ho => by rw [h1] at ho; cases ho; rfl)
  refine ⟨hx, (hH.del (a := a)).add hx hk (fun a' ob p ha hp' => ?_) (fun b => ?_) o1 (Nat.lt_of_lt_of_le o2 hF.size) ?_ ?_ (hH.cp a _ q hob hq)⟩
  · rw [T.get_del] at ha
    by_cases haa : a' = a
    · rw [if_pos haa] at ha; cases ha
    · rw [if_neg haa] at ha
      exact ⟨hF.same _ (hH.inj a' a ob _ p q ha hob hp' hq haa) (hH.ob a' ob p ha hp').2.1, rfl⟩
  · show M.fz b ≤ (cellsOf w' b).length
    by_cases hb : b = q.b
    · subst hb; rw [hc2]; have := hH.wf q.b; rw [hcc] at this; simp only [Array.length_toList] at this ⊢; omega
    · by_cases hl : b < M.w.heap.size
      · have : cellsOf w' b = cellsOf M.w b := by unfold cellsOf; rw [hF.same b hb hl]
        rw [this]; exact hH.wf b
      · have := hH.wf b
        rw [cellsOf_none (by omega)] at this
        have h0 : M.fz b = 0 := by simpa using this
        omega
  · simp only [RO]
    rw [← f0] at f2
    exact ⟨trivial, by omega, c2, el, h2, by omega, hLl, RRow.ext hx.e0 _ _ _ _ rfl hL, by simpa using hfz⟩
  · intro a' ob p ha hp'
    rw [T.get_del] at ha
    by_cases haa : a' = a
    · rw [if_pos haa] at ha; cases ha
    · rw [if_neg haa] at ha; exact hH.inj a' a ob _ p q ha hob hp' hq haa
theorem newblock {nc : Nat} {L : List D} {c2 : Array Value} {el : TypeId} (hH : RH I M h) (hk : I k = none) (hF : Fr M.w.heap.size M.w w') (h2 : w'.heap[M.w.heap.size]? = some (.cells c2 el (0, 0))) (hs : nc ≤ c2.size) (hL : RRow M.w M.fz 1 L c2.toList) (hLl : L.length ≤ nc) (hnc : nc ≤ 9223372036854775807) :
    Ext M ⟨w', M.fz, M.lo⟩ ∧ RH (I.set k ⟨M.w.heap.size, 0, nc, 1⟩) ⟨w', M.fz, M.lo⟩ (h.set k (.row 1 L false)) := by
  have h0 : M.fz M.w.heap.size = 0 := by
    have := hH.wf M.w.heap.size
    rw [cellsOf_none (Nat.le_refl _)] at this
    simpa using this
  have hx : Ext M ⟨w', M.fz, M.lo⟩ := fr_ext hF hH.wf hH.lo hH.lo rfl (by rw [h0]; rfl) (fun o ho => by
    have := (Array.getElem?_eq_some_iff.1 ho).1; omega)
  have hlt := (Array.getElem?_eq_some_iff.1 h2).1
  refine ⟨hx, hH.add hx hk (fun a' ob p ha hp' => ?_) (fun b => ?_) hH.lo hlt ?_ ?_ hnc⟩
  · have := (hH.ob a' ob p ha hp').2.1
    exact ⟨hF.same _ (by omega) this, rfl⟩
  · show M.fz b ≤ (cellsOf w' b).length
    by_cases hl : b < M.w.heap.size
    · have : cellsOf w' b = cellsOf M.w b := by unfold cellsOf; rw [hF.same b (by omega) hl]
      rw [this]; exact hH.wf b
    · have := hH.wf b
      rw [cellsOf_none (by omega)] at this
      have h0 : M.fz b = 0 := by simpa using this
      omega
  · simp only [RO]
    exact ⟨trivial, by omega, c2, el, h2, by omega, hLl, RRow.ext hx.e0 _ _ _ _ (by simp) hL, by simp [h0]⟩
  · intro a' ob p ha hp'
    have := (hH.ob a' ob p ha hp').2.1
    show p.b ≠ M.w.heap.size
    omega
end
end Tm
/- slices.Insert at []int answers what the machine's ins answers. No statement of the seat is proved here. -/
namespace Tm
open Go Go.Proofs Go.Shelf
set_option linter.unusedVariables false
set_option linter.unusedSimpArgs false
def oi (d : Option Nat) (c : COp) : COper := { dst := d, guard := none, op := c }
def cIns : CFun := ⟨[(.t 3, none)], .reg 4 [(0, oi (some 4) (.bslice false [.sl []] 1 [(0, .t 2)])), (1, oi (some 5) (.bin .geq 0 (.t 1) (.c (.d (.i .i64 (.ofNat 0)))))), (3, oi (some 3) (.ins 1 (.t 0) (.t 1) (.t 2)))], false, true, false, false⟩
section
variable {P : Program} {ρ : Ren} {I : Inj} {M : Mem} {h : Heap} {k : Nat}
/-- What an insertion leaves. -/
def InsP (I : Inj) (M : Mem) (k m : Nat) (h' : Heap) (e : Ending) (w' : World) : Prop := ∃ u I', e = .returned u ∧ Ext M ⟨w', M.fz, M.lo⟩ ∧ Le I I' ∧ (∀ x, I' x ≠ none → I x ≠ none ∨ x = k) ∧ RH I' ⟨w', M.fz, M.lo⟩ h' ∧ RV I' ⟨w', M.fz, M.lo⟩ (.sl k 0 m) u
theorem insP_mk {m b o nc : Nat} {h' : Heap} {w' : World} (hk : I k = none) (hm : m ≤ nc) (h : Ext M ⟨w', M.fz, M.lo⟩ ∧ RH (I.set k ⟨b, o, nc, 1⟩) ⟨w', M.fz, M.lo⟩ h') : InsP I M k m h' (.returned (.slice (some ⟨b, o, none⟩) m nc)) w' := by
  refine ⟨_, _, rfl, h.1, Inj.set_le _ hk, Inj.set_only, h.2, RV.mk rfl ?_⟩
  simp only [RVc]
  exact ⟨_, some ⟨b, o, none⟩, Inj.set_same, by simp, by simpa using hm, .inr (by simp)⟩
/-- A new row, the elements behind those that were there. -/
theorem ins_new (L : Lays2.n21 P ρ) {A : Option Addr} {n c vb voff m vc : Nat} {cs vs : List Value} {xs ys : List D} (hH : RH I M h) (hk : I k = none) (hm : 0 < m) (hnc : n ≤ c) (hroom : c < n + m) (hbig : n + m < 4294967296) (hcl : cs.length = n) (hvl : vs.length = m) (hnil : A = none → n = 0)
    (hcs : ∀ a, A = some a → ∀ j v, cs[j]? = some v → M.w.cell? (a.add j) = some v) (hvs : ∀ j v, vs[j]? = some v → M.w.cell? ⟨vb, voff + j, none⟩ = some v) (h1v : ∀ v ∈ vs, v.oneCell' = true)
    (hx : RRow M.w M.fz 1 xs cs) (hxl : xs.length = n) (hy : RRow M.w M.fz 1 ys vs) (hyl : ys.length = m) :
    Calls P (ρ.f 21) #[.slice A n c, .int .i64 n, .slice (some ⟨vb, voff, none⟩) m vc] M.w (InsP I M k (n + m) (h.set k (.row 1 (xs ++ ys) false))) := by
  refine (Any2.slices_Insert_int_end_grow L A n c vb voff m vc cs vs M.w hm hnc hroom (by omega) hcl hvl hnil hcs hvs h1v).mono ?_
  rintro e w' ⟨rfl, rfl⟩
  have hc1 := grownCap_ge M.w (n + m) c (ρ.t 3)
  have hc2 : grownCap M.w (n + m) c (ρ.t 3) ≤ 9223372036854775807 := by
    have := grownCap_le_maxLen M.w (n + m) c (ρ.t 3) (by simp only [maxLen]; omega)
    simpa only [maxLen] using this
  refine insP_mk hk hc1 (newblock (el := ρ.t 3) hH hk ((Fr.drew _ _).trans (Fr.alloc _ _ _)) (heap_alloc_new M.w.drew _) ?_ ?_ (by rw [List.length_append]; omega) hc2)
  · simp only [Array.size_append, List.size_toArray, size_zeroCells, List.length_append]
    simp [Value.cells]
    omega
  · rw [Array.toList_append]
    refine RRow.congr (hx.app (by omega) hy) ?_
    rw [List.take_append_of_le_length (by simp; omega)]
theorem mid_list {α : Type} (l cs vs : List α) (n i : Nat) (hl : l.take n = cs) (hn : cs.length = n) (hi : i ≤ n) (hr : n + vs.length ≤ l.length) :
    (((l.take (i + vs.length) ++ cs.drop i ++ l.drop (i + vs.length + (cs.drop i).length)).take i ++ vs ++ (l.take (i + vs.length) ++ cs.drop i ++ l.drop (i + vs.length + (cs.drop i).length)).drop (i + vs.length)).take (n + vs.length)) = cs.take i ++ vs ++ cs.drop i := by
  have e1 : (l.take (i + vs.length) ++ cs.drop i ++ l.drop (i + vs.length + (cs.drop i).length)).take i = cs.take i := by
    rw [List.append_assoc, List.take_append_of_le_length (by simp; omega), List.take_take, ← hl, List.take_take]
    congr 1
    omega
  have e2 : (l.take (i + vs.length) ++ cs.drop i ++ l.drop (i + vs.length + (cs.drop i).length)).drop (i + vs.length) = cs.drop i ++ l.drop (i + vs.length + (cs.drop i).length) := by
    rw [List.append_assoc]
    have hlen : (l.take (i + vs.length)).length = i + vs.length := by simp; omega
    rw [List.drop_append_of_le_length (by omega), List.drop_eq_nil_of_le (by omega)]
    rfl
  rw [e1, e2]
  have : (cs.take i ++ vs ++ (cs.drop i ++ l.drop (i + vs.length + (cs.drop i).length))) = (cs.take i ++ vs ++ cs.drop i) ++ l.drop (i + vs.length + (cs.drop i).length) := by simp
  rw [this, List.take_append_of_le_length (by simp; omega), List.take_of_length_le (by simp; omega)]
/-- A new row, the elements in the middle. -/
theorem ins_newmid (L : Lays2.n21 P ρ) {b off n c i vb voff m vc : Nat} {cs vs : List Value} {xs ys : List D} (hH : RH I M h) (hk : I k = none) (hi : i < n) (hm : 0 < m) (hnc : n ≤ c) (hroom : c < n + m) (hbig : n + m < 4294967296) (hcl : cs.length = n) (hvl : vs.length = m)
    (hcs : ∀ j v, cs[j]? = some v → M.w.cell? ⟨b, off + j, none⟩ = some v) (hvs : ∀ j v, vs[j]? = some v → M.w.cell? ⟨vb, voff + j, none⟩ = some v) (h1c : ∀ v ∈ cs, v.oneCell' = true) (h1v : ∀ v ∈ vs, v.oneCell' = true)
    (hx : RRow M.w M.fz 1 xs cs) (hxl : xs.length = n) (hy : RRow M.w M.fz 1 ys vs) (hyl : ys.length = m) :
    Calls P (ρ.f 21) #[.slice (some ⟨b, off, none⟩) n c, .int .i64 i, .slice (some ⟨vb, voff, none⟩) m vc] M.w (InsP I M k (n + m) (h.set k (.row 1 (xs.take i ++ ys ++ xs.drop i) false))) := by
  refine (Any2.slices_Insert_int_grow L b off n c i vb voff m vc cs vs M.w hi hm hnc hroom (by omega) hcl hvl hcs hvs h1c h1v).mono ?_
  rintro e w' ⟨rfl, rfl⟩
  have hc1 := grownCap_ge M.w (n + m) c (ρ.t 3)
  have hc2 : grownCap M.w (n + m) c (ρ.t 3) ≤ 9223372036854775807 := by
    have := grownCap_le_maxLen M.w (n + m) c (ρ.t 3) (by simp only [maxLen]; omega)
    simpa only [maxLen] using this
  generalize hA : ((cs.take i).toArray ++ Builtin.zeroCells (Value.int .i64 0).cells (n + m - i) ++ Builtin.zeroCells (Value.int .i64 0).cells (grownCap M.w (n + m) c (ρ.t 3) - (n + m))) = A0
  have hsz : A0.size = grownCap M.w (n + m) c (ρ.t 3) := by
    rw [← hA]; simp only [Array.size_append, List.size_toArray, size_zeroCells, List.length_take]
    simp [Value.cells]; omega
  have hpre : A0.toList.take i = cs.take i := by
    rw [← hA, Array.toList_append, Array.toList_append, List.append_assoc, List.take_append_of_le_length (by simp; omega), List.take_of_length_le (by simp; omega)]
  have hn : (M.w.alloc (.cells A0 (ρ.t 3))).heap[M.w.heap.size]? = some (.cells A0 (ρ.t 3) (0, 0)) := heap_alloc_new M.w _
  have h1 := heap_setCells_at vs i (M.w.alloc (.cells A0 (ρ.t 3))).drew A0 hn
  have h2 := heap_setCells_at (cs.drop i) (i + m) ((M.w.alloc (.cells A0 (ρ.t 3))).drew.setCells M.w.heap.size i vs).drew _ h1
  refine insP_mk hk hc1 (newblock (el := ρ.t 3) hH hk ?_ h2 (by rw [setMany_size, setMany_size, hsz]; exact Nat.le_refl _) ?_ (by simp; omega) hc2)
  · exact (Fr.alloc _ _ _).trans ((Fr.drew _ _).trans ((Fr.setCells _ _ _).trans ((Fr.drew _ _).trans (Fr.setCells _ _ _))))
  · have l1 : (setMany vs i A0).toList = cs.take i ++ vs ++ A0.toList.drop (i + m) := by rw [setMany_list _ _ _ (by rw [hsz]; omega), hpre, hvl]
    have l2 : (setMany (cs.drop i) (i + m) (setMany vs i A0)).toList = cs.take i ++ vs ++ cs.drop i ++ (setMany vs i A0).toList.drop (i + m + (cs.drop i).length) := by
      rw [setMany_list _ _ _ (by rw [setMany_size, hsz]; simp; omega), l1]
      rw [List.take_append_of_le_length (by simp; omega), List.take_of_length_le (by simp; omega)]
    have hrow : RRow M.w M.fz 1 (xs.take i ++ ys ++ xs.drop i) (cs.take i ++ vs ++ cs.drop i) := by
      have a1 := hx.take i
      have a2 := hx.drop i
      rw [Nat.mul_one] at a2
      refine RRow.app (RRow.app (RRow.congr a1 ?_) (by simp; omega) hy) (by simp; omega) a2
      rw [List.length_take, Nat.mul_one, Nat.min_eq_left (by omega), List.take_take, Nat.min_self]
    refine RRow.congr hrow ?_
    rw [l2, List.take_append_of_le_length (by simp; omega)]
/-- In place. -/
theorem ins_in (L : Lays2.n21 P ρ) {a i vb voff m vc : Nat} {vs : List Value} {xs ys : List D} {q : Pl} {c : Array Value} {el : TypeId} (hH : RH I M h) (hk : I k = none) (hob : h.get a = some (.row 1 xs false)) (hq : I a = some q) (hb : M.w.heap[q.b]? = some (.cells c el (0, 0))) (hsz : q.o + q.c ≤ c.size) (hx : RRow M.w M.fz 1 xs (c.toList.drop q.o)) (hi : i ≤ xs.length) (hm : 0 < m) (hroom : xs.length + m ≤ q.c) (hbig : xs.length + m < 4294967296) (hvb : vb ≠ q.b ∨ voff + m ≤ q.o) (hva : ∃ c2 e2 fr, M.w.heap[vb]? = some (.cells c2 e2 fr) ∧ c2.size ≠ 0) (hvl : vs.length = m)
    (hvs : ∀ j v, vs[j]? = some v → M.w.cell? ⟨vb, voff + j, none⟩ = some v) (h1v : ∀ v ∈ vs, v.oneCell' = true) (hy : RRow M.w M.fz 1 ys vs) (hyl : ys.length = m) :
    Calls P (ρ.f 21) #[.slice (some ⟨q.b, q.o, none⟩) xs.length q.c, .int .i64 i, .slice (some ⟨vb, voff, none⟩) m vc] M.w (InsP I M k (xs.length + m) ((h.del a).set k (.row 1 (xs.take i ++ ys ++ xs.drop i) false))) := by
  have hc63 := hH.cp a _ q hob hq
  have hcell : ∀ x, M.w.cell? ⟨q.b, x, none⟩ = c.toList[x]? := fun x => by rw [cell_eq]; unfold cellsOf; rw [hb]
  have hsp : ∀ j, j < xs.length + m → (M.w.cell? ⟨q.b, q.o + j, none⟩).isSome = true := fun j hj => by rw [hcell]; simp; omega
  have hfr : ∀ x, M.w.frozen? ⟨q.b, x, none⟩ = false := fun x => by simp [World.frozen?, hb]
  have hxl := hx.len
  rw [Nat.mul_one] at hxl
  generalize hcs : (c.toList.drop q.o).take xs.length = cs
  have hcl : cs.length = xs.length := by rw [← hcs]; simp at hxl ⊢; omega
  have hxc : RRow M.w M.fz 1 xs cs := RRow.congr hx (by rw [← hcs, Nat.mul_one, List.take_take, Nat.min_self])
  have h1c : ∀ v ∈ cs, v.oneCell' = true := fun v hv => hxc.oc v (by rw [Nat.mul_one, List.take_of_length_le (by omega)]; exact hv)
  have hcc : ∀ j v, cs[j]? = some v → M.w.cell? ⟨q.b, q.o + j, none⟩ = some v := fun j v hj => by
    rw [hcell]
    rw [← hcs, List.getElem?_take] at hj
    split at hj
    · rwa [List.getElem?_drop] at hj
    · cases hj
  have hrow : RRow M.w M.fz 1 (xs.take i ++ ys ++ xs.drop i) (cs.take i ++ vs ++ cs.drop i) := by
    have a1 := hxc.take i
    have a2 := hxc.drop i
    rw [Nat.mul_one] at a2
    refine RRow.app (RRow.app (RRow.congr a1 ?_) (by simp; omega) hy) (by simp; omega) a2
    rw [List.length_take, Nat.mul_one, Nat.min_eq_left (by omega), List.take_take, Nat.min_self]
  have hLl : (xs.take i ++ ys ++ xs.drop i).length = xs.length + m := by simp; omega
  by_cases hin : i = xs.length
  · subst hin
    refine (Any2.slices_Insert_int_end_room L q.b q.o xs.length q.c vb voff m vc vs M.w hm hroom hc63 hvl (fun j hj => by rw [Nat.add_assoc]; exact hsp _ (by omega)) (fun j hj => hfr _) hvs h1v).mono ?_
    rintro e w' ⟨rfl, rfl⟩
    have h1 := heap_setCells_at vs (q.o + xs.length) M.w c hb
    have hl1 : (setMany vs (q.o + xs.length) c).toList = c.toList.take (q.o + xs.length) ++ vs ++ c.toList.drop (q.o + xs.length + vs.length) := setMany_list _ _ _ (by omega)
    refine insP_mk hk hroom (inplace hH hk hob hq (Fr.setCells _ _ _) hb h1 (setMany_size _ _ _) ?_ ?_ (by rw [hLl]; exact hroom))
    · rw [hl1, List.append_assoc, List.take_append_of_le_length (by simp; omega), List.take_take, Nat.min_eq_left (by omega)]
    · refine RRow.congr hrow ?_
      rw [hl1, Nat.mul_one, hLl, List.append_assoc, List.drop_append_of_le_length (by simp; omega), List.drop_take, Nat.add_sub_cancel_left, hcs]
      rw [List.take_of_length_le (by omega : cs.length ≤ xs.length), List.drop_eq_nil_of_le (by omega : cs.length ≤ xs.length), List.append_nil, ← List.append_assoc, List.take_append_of_le_length (by simp; omega)]
  · have hlt : i < xs.length := by omega
    obtain ⟨c2, e2, fr, hv1, hv2⟩ := hva
    refine (ins_shift L q.b q.o xs.length q.c i vb voff m vc cs vs M.w hlt hm hroom hc63 hvb hcl hvl hcc hsp (fun j hj => hfr _) hvs h1c h1v e2 el c2.size c.size (by simp [World.shape?, hv1]) (by simp [World.shape?, hb]) hv2 (hfr _)).mono ?_
    rintro e w' ⟨rfl, rfl⟩
    have h1 := heap_setCells_at (cs.drop i) (q.o + (i + m)) M.w.drew c hb
    have h2 := heap_setCells_at vs (q.o + i) (M.w.drew.setCells q.b (q.o + (i + m)) (cs.drop i)) _ h1
    have hs1 : (setMany (cs.drop i) (q.o + (i + m)) c).size = c.size := setMany_size _ _ _
    have hl1 : (setMany (cs.drop i) (q.o + (i + m)) c).toList = c.toList.take (q.o + (i + m)) ++ cs.drop i ++ c.toList.drop (q.o + (i + m) + (cs.drop i).length) := setMany_list _ _ _ (by simp; omega)
    have hl2 : (setMany vs (q.o + i) (setMany (cs.drop i) (q.o + (i + m)) c)).toList = (setMany (cs.drop i) (q.o + (i + m)) c).toList.take (q.o + i) ++ vs ++ (setMany (cs.drop i) (q.o + (i + m)) c).toList.drop (q.o + i + vs.length) := setMany_list _ _ _ (by rw [hs1]; omega)
    refine insP_mk hk hroom (inplace hH hk hob hq ((Fr.drew _ _).trans ((Fr.setCells _ _ _).trans (Fr.setCells _ _ _))) hb h2 (by rw [setMany_size]; exact hs1) ?_ ?_ (by rw [hLl]; exact hroom))
    · rw [hl2, List.append_assoc, List.take_append_of_le_length (by simp; omega), List.take_take, Nat.min_eq_left (by omega), hl1, List.append_assoc, List.take_append_of_le_length (by simp; omega), List.take_take, Nat.min_eq_left (by omega)]
    · refine RRow.congr hrow ?_
      rw [Nat.mul_one, hLl, List.take_of_length_le (by simp; omega : (cs.take i ++ vs ++ cs.drop i).length ≤ xs.length + m)]
      have hm' := mid_list (c.toList.drop q.o) cs vs xs.length i hcs hcl hi (by simp; omega)
      rw [hvl] at hm'
      rw [← hm']
      congr 1
      have e1 : (c.toList.drop q.o).take (i + m) ++ cs.drop i ++ (c.toList.drop q.o).drop (i + m + (cs.drop i).length) = (setMany (cs.drop i) (q.o + (i + m)) c).toList.drop q.o := by
        conv => rhs; rw [hl1, List.append_assoc, List.drop_append_of_le_length (by simp; omega), List.drop_take, Nat.add_sub_cancel_left]
        rw [List.append_assoc, List.drop_drop]
        congr 3
        omega
      rw [e1, hl2, List.append_assoc, List.drop_append_of_le_length (by simp; omega), List.drop_take, Nat.add_sub_cancel_left, List.append_assoc, List.drop_drop, hvl]
      congr 3
      omega
theorem spec_ins {G : Nat → Option AV} {F : Nat → Option CFun} {k : Nat} (L : Lays2.n21 P ρ) : RunOK P G F k (ρ.f 21) cIns := by
  refine ⟨⟨_, L.f21, by rfl, by rfl⟩, fun args h n s l har hev hl I M vs hG hH hfr hA => ?_⟩
  have hlen : args.length = 3 := by
    rcases har with har | har
    · cases har
    · simpa [arOK, cIns] using har
  match args, hlen with
  | [x, i, y], _ =>
  obtain ⟨X, r1, rfl, rx, hA⟩ := hA
  obtain ⟨Ii, r2, rfl, ri, hA⟩ := hA
  obtain ⟨Y, r3, rfl, ry, hA⟩ := hA
  simp only [Args] at hA
  subst hA
  -- the machine
  have hnb : ev F k cIns.body ⟨initE 0 [x, i, y] .lf, h, n⟩ ≠ .bad := by rcases hev with e | e <;> rw [e] <;> simp
  obtain ⟨s1, h1, h2⟩ := reg_inv hnb
  have hs : s = s1 := by
    have h3 : ev F k cIns.body ⟨initE 0 [x, i, y] .lf, h, n⟩ = .nor s1 := h2
    rw [h3] at hev
    rcases hev with e | e <;> cases e
    rfl
  subst hs
  obtain ⟨v4, h4, n4, d4, _, h1⟩ := evOps_one h1
  obtain ⟨v5, h5, n5, d5, _, h1⟩ := evOps_one h1
  obtain ⟨v3, h3, n3, d3, _, h1⟩ := evOps_one h1
  simp only [evOps, Option.some.injEq] at h1
  obtain ⟨t4, rfl⟩ := doOp_ev d4 rfl
  obtain ⟨t5, rfl⟩ := doOp_ev d5 rfl
  obtain ⟨t3, rfl⟩ := doOp_ev d3 rfl
  obtain rfl := (read_grow rfl t4).1
  obtain rfl := (read_grow rfl t5).1
  clear d4 d5 d3
  have g0 : (Opd.t 0).ev (putE (putE (initE 0 [x, i, y] .lf) (some 4) v4) (some 5) v5) = x := by simp [Opd.ev, putE, initE, T.get_set]
  have g1 : (Opd.t 1).ev (putE (putE (initE 0 [x, i, y] .lf) (some 4) v4) (some 5) v5) = i := by simp [Opd.ev, putE, initE, T.get_set]
  have g2 : (Opd.t 2).ev (putE (putE (initE 0 [x, i, y] .lf) (some 4) v4) (some 5) v5) = y := by simp [Opd.ev, putE, initE, T.get_set]
  have g2' : (Opd.t 2).ev (initE 0 [x, i, y] .lf) = y := by simp [Opd.ev, initE, T.get_set]
  have g1' : (Opd.t 1).ev (putE (initE 0 [x, i, y] .lf) (some 4) v4) = i := by simp [Opd.ev, putE, initE, T.get_set]
  simp only [oi] at t3 t4 t5 h1
  simp only [evOp, fillD, g2'] at t4
  obtain ⟨b5, hb5, _, _⟩ := bin_ev t5
  rw [g1'] at hb5
  -- what the results are
  have hl' : l = [v3] := by
    rw [← h1] at hl
    simp only [cIns, resVs, resV, Opd.ev, putE, T.gs, Option.getD_some, bif_none, Option.some.injEq] at hl
    exact hl.2.symm
  subst hl'
  have hsn : s.n = n + 4 := by rw [← h1]
  have hsh : s.h = h3 := by rw [← h1]
  -- the elements
  have hy : ∀ ys, elems y h5 = some ys → headSz ys 1 = true → ys ≠ [] → ∃ vb voff vc vs, Y = .slice (some ⟨vb, voff, none⟩) ys.length vc ∧ vs.length = ys.length ∧ RRow M.w M.fz 1 ys vs ∧ (∀ j v, vs[j]? = some v → M.w.cell? ⟨vb, voff + j, none⟩ = some v) ∧ (∀ v ∈ vs, v.oneCell' = true) ∧ voff + ys.length ≤ M.fz vb ∧ ∃ c2 e2 fr, M.w.heap[vb]? = some (.cells c2 e2 fr) ∧ c2.size ≠ 0 := by
    intro ys he hh hne
    have hd : ∃ A c, Y = .slice A ys.length c ∧ ∃ b o s, A = some ⟨b, o, none⟩ ∧ 0 < s ∧ o + ys.length * s ≤ M.fz b ∧ RRow M.w M.fz s ys ((cellsOf M.w b).drop o) := by
      cases y with
      | d d =>
        cases d with
        | sl l0 =>
          simp only [elems, Option.some.injEq] at he
          subst he
          obtain ⟨A, c, e1, _, _, e3⟩ := ry.slD
          exact ⟨A, c, e1, e3 hne⟩
        | se => simp only [elems, Option.some.injEq] at he; exact absurd he.symm hne
        | _ => simp [elems] at he
      | zl l0 =>
        simp only [elems, Option.some.injEq] at he
        subst he
        obtain ⟨A, e1, e3⟩ := ry.zlD
        exact ⟨A, _, e1, e3 hne⟩
      | bs l0 => simp [valD, cellsV, allD] at t4
      | sl a b c => simp [valD, cellsV, allD] at t4
      | _ => simp [elems] at he
    obtain ⟨A, c, rfl, b, o, s', rfl, hs', hfz, hrow⟩ := hd
    have hs1 : s' = 1 := headSz_eq hh hne hrow
    subst hs1
    have hrl := hrow.len
    rw [Nat.mul_one] at hrl hfz
    have hpos := List.length_pos_iff.2 hne
    refine ⟨b, o, c, ((cellsOf M.w b).drop o).take ys.length, rfl, by simp at hrl ⊢; omega, RRow.congr hrow (by rw [Nat.mul_one, List.take_take, Nat.min_self]), fun j v hj => ?_, fun v hv => hrow.oc v (by rwa [Nat.mul_one]), hfz, ?_⟩
    · rw [cell_eq]
      rw [List.getElem?_take] at hj
      split at hj
      · rwa [List.getElem?_drop] at hj
      · cases hj
    · have hne2 : cellsOf M.w b ≠ [] := by intro e; rw [e] at hrl; simp at hrl; exact hne hrl
      unfold cellsOf at hne2
      split at hne2
      · rename_i c0 e0 f0 hb0
        exact ⟨c0, e0, f0, hb0, fun e => hne2 (by simpa using e)⟩
      · exact absurd rfl hne2
  have hk : I (n + 3) = none := hfr _ (by omega)
  have fin : ∀ {m : Nat}, v3 = .sl (n + 3) 0 m → (∀ e w', InsP I M (n + 3) m h3 e w' → BodyPost I M n s [v3] e w') := by
    rintro m rfl e w' ⟨u, I', rfl, f1, f2, f3, f4, f5⟩
    refine ⟨[u], ⟨w', M.fz, M.lo⟩, I', rfl, rfl, f1, f2, fun z hz => ?_, by omega, by rw [hsh]; exact f4, u, [], rfl, f5.one (by simp), rfl⟩
    rcases f3 z hz with h | h
    · exact .inl h
    · exact .inr (by omega)
  simp only [evOp, g0, g1, g2] at t3
  have hie : ∃ i0 ys, natA i = some i0 ∧ elems y h5 = some ys := by
    split at t3 <;> first | (cases t3; done) | exact ⟨_, _, by assumption, by assumption⟩
  obtain ⟨i0, ys, hi, he⟩ := hie
  rw [hi, he] at t3
  have hi64 : Ii = .int .i64 i0 := by
    obtain ⟨kd, rfl⟩ := natA_rel ri hi
    unfold natA at hi
    split at hi
    · rename_i kd' a
      have := ri.int
      simp only [Value.int.injEq] at this
      obtain ⟨rfl, _⟩ := this
      cases kd with
      | i64 => rfl
      | _ => exfalso; simp only [binA, Opd.ev] at hb5; cases hb5
    · cases hi
  subst hi64
  have empty : ∀ {A : Option Addr}, X = .slice A 0 0 → i0 = 0 → (bif headSz ys 1 && Nat.blt 0 ys.length && Nat.blt ys.length 4294967296 then some (AV.sl (n + 3) 0 ys.length, h5.set (n + 3) (.row 1 ys false)) else none) = some (v3, h3) → Calls P (ρ.f 21) #[X, .int .i64 i0, Y] M.w (BodyPost I M n s [v3]) := by
    rintro A rfl rfl t3
    rw [bif_none] at t3
    simp only [Bool.and_eq_true, Option.some.injEq, Prod.mk.injEq] at t3
    obtain ⟨⟨⟨c1, c2⟩, c3⟩, e7, e8⟩ := t3
    have hne : ys ≠ [] := by rintro rfl; simp at c2
    have hlt := blt_lt c3
    obtain ⟨vb, voff, vc, vs, rfl, e1, e2, e3, e4, e5, e6⟩ := hy ys he c1 hne
    have := ins_new (h := h5) (k := n + 3) (vc := vc) L (A := A) (n := 0) (c := 0) (cs := []) (xs := []) hH hk (List.length_pos_iff.2 hne) (Nat.le_refl _) (by have := List.length_pos_iff.2 hne; omega) (by omega) rfl e1 (fun _ => rfl) (fun a _ j v hj => by simp at hj) e3 e4 (by simp [RRow]) rfl e2 rfl
    rw [Nat.zero_add] at this
    exact Calls.mono this (by rw [List.nil_append, e8]; exact fin e7.symm)
  show Calls P (ρ.f 21) #[X, .int .i64 i0, Y] M.w (BodyPost I M n s [v3])
  cases x with
  | d dx =>
    cases dx with
    | sl lx =>
      cases lx with
      | nil =>
        cases i0 with
        | zero =>
          obtain ⟨A, c, rfl, _, hc0, _⟩ := rx.slD
          obtain rfl := hc0 rfl
          exact empty rfl rfl t3
        | succ i0 => cases t3
      | cons _ _ => cases t3
    | _ => cases t3
  | zl lx =>
    cases lx with
    | nil =>
      cases i0 with
      | zero =>
        obtain ⟨A, rfl, _⟩ := rx.zlD
        exact empty rfl rfl t3
      | succ i0 => cases t3
    | cons _ _ => cases t3
  | sl a lo m =>
    cases lo with
    | succ lo => cases t3
    | zero =>
      simp only at t3
      cases hob : h5.get a with
      | none => simp [hob] at t3
      | some ob =>
        cases ob with
        | row s0 xs z =>
          cases z with
          | true => simp [hob] at t3
          | false =>
            simp only [hob] at t3
            rw [bif_none] at t3
            simp only [Bool.and_eq_true, beq_iff_eq, Option.some.injEq, Prod.mk.injEq] at t3
            obtain ⟨⟨⟨⟨⟨⟨rfl, c1⟩, c2⟩, rfl⟩, c4⟩, c5⟩, e7, e8⟩ := t3
            have hne : ys ≠ [] := by rintro rfl; simp at c2
            have hpos := List.length_pos_iff.2 hne
            have hlt := blt_lt c5
            have hle : i0 ≤ xs.length := Nat.le_of_ble_eq_true c4
            obtain ⟨vb, voff, vc, vs, rfl, e1, e2, e3, e4, e5, e6⟩ := hy ys he c1 hne
            obtain ⟨q, A, hq, rfl, g3, g4⟩ := rx.slR
            obtain ⟨o1, o2, hro⟩ := hH.ob a _ q hob hq
            simp only [RO] at hro
            obtain ⟨f0, fs, c, el, f1, f2, f3, f4, f5⟩ := hro
            rw [← f0] at f2 f4 g4
            rw [Nat.mul_one] at f2
            have hfz : M.fz q.b ≤ q.o := by simpa using f5
            have hvb : vb ≠ q.b ∨ voff + ys.length ≤ q.o := by
              by_cases hv : vb = q.b
              · subst hv; exact .inr (Nat.le_trans e5 hfz)
              · exact .inl hv
            rw [Nat.sub_zero]
            by_cases hroom : xs.length + ys.length ≤ q.c
            · have hA : A = some ⟨q.b, q.o, none⟩ := by
                rcases g4 with g4 | g4
                · omega
                · simpa using g4
              subst hA
              exact Calls.mono (ins_in (k := n + 3) L hH hk hob hq f1 f2 f4 hle hpos hroom hlt hvb e6 e1 e3 e4 e2 rfl) (by rw [e8]; exact fin e7.symm)
            · have hxl := f4.len
              rw [Nat.mul_one] at hxl
              generalize hcs : (c.toList.drop q.o).take xs.length = cs
              have hcl : cs.length = xs.length := by rw [← hcs]; simp at hxl ⊢; omega
              have hxc : RRow M.w M.fz 1 xs cs := RRow.congr f4 (by rw [← hcs, Nat.mul_one, List.take_take, Nat.min_self])
              have hcc : ∀ j v, cs[j]? = some v → M.w.cell? ⟨q.b, q.o + j, none⟩ = some v := fun j v hj => by
                rw [cell_eq]
                unfold cellsOf
                rw [f1]
                rw [← hcs, List.getElem?_take] at hj
                split at hj
                · rwa [List.getElem?_drop] at hj
                · cases hj
              have hA : xs.length ≠ 0 → A = some ⟨q.b, q.o, none⟩ := fun hn => by
                rcases g4 with g4 | g4
                · omega
                · simpa using g4
              by_cases hin : i0 = xs.length
              · subst hin
                have := ins_new (k := n + 3) (vc := vc) (A := A) (c := q.c) L (hH.del (a := a)) hk hpos f3 (by omega) hlt hcl e1 (fun hn => by
                  by_cases h0 : xs.length = 0
                  · exact h0
                  · rw [hA h0] at hn; cases hn) (fun b hb j v hj => by
                  have h0 : xs.length ≠ 0 := by
                    have := (List.getElem?_eq_some_iff.1 hj).1
                    omega
                  rw [hA h0] at hb
                  cases hb
                  rw [add_none]
                  exact hcc j v hj) e3 e4 hxc rfl e2 rfl
                refine Calls.mono this (by
                  rw [List.take_of_length_le (Nat.le_refl _), List.drop_eq_nil_of_le (Nat.le_refl _), List.append_nil] at e8
                  rw [e8]; exact fin e7.symm)
              · rw [hA (by omega)]
                exact Calls.mono (ins_newmid (k := n + 3) L (hH.del (a := a)) hk (by omega) hpos f3 (by omega) hlt hcl e1 hcc e3 (fun v hv => hxc.oc v (by rw [Nat.mul_one, List.take_of_length_le (by omega)]; exact hv)) e4 hxc rfl e2 rfl) (by rw [e8]; exact fin e7.symm)
        | _ => simp [hob] at t3
  | _ => cases t3
end
end Tm
