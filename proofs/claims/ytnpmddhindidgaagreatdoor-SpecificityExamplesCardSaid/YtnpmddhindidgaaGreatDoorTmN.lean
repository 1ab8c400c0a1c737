/- The abstract machine on trees, part N. No statement of the seat is proved here. -/
import Derived.Shelf.SlIterI.Sorted
import Derived.Test.YtnpmddhindidgaaGreatDoorTmL
set_option linter.unusedVariables false
set_option linter.unusedSimpArgs false
set_option linter.constructorNameAsVariable false
set_option linter.unusedSectionVars false
set_option linter.deprecated false
/- slices.Sorted over slices.Values at int: lists of numbers, plain; the iterator idiom where the caller's invariant keeps old memory. No statement of the seat is proved here. -/
set_option linter.unusedVariables false
set_option linter.unusedSimpArgs false
namespace Tm
open Go Go.Shelf Go.RowKit
open Go.Proofs
def intOfD : D → Int
  | .i _ n => n
  | _ => 0
def dI (n : Int) : D := .i .i64 n
theorem isI64_spec {l : List D} (h : l.all isI64 = true) : l = (l.map intOfD).map dI := by
  induction l with
  | nil => rfl
  | cons x l ih =>
    simp only [List.all_cons, Bool.and_eq_true] at h
    have hx : x = dI (intOfD x) := by
      cases x with
      | i k n => cases k <;> simp [isI64] at h; rfl
      | _ => simp [isI64] at h
    rw [List.map_cons, List.map_cons, ← hx, ← ih h.2]
theorem insD_sorted (x : Int) : ∀ {l : List Int}, l.Pairwise (· ≤ ·) → ∃ r : List Int, insD (dI x) (l.map dI) = r.map dI ∧ r.Pairwise (· ≤ ·) ∧ ∀ y ∈ r, y = x ∨ y ∈ l
  | [], _ => ⟨[x], rfl, by simp, by simp⟩
  | y :: l, h => by
    simp only [List.map_cons, insD, dI, lessD]
    rw [List.pairwise_cons] at h
    cases hc : decide (x < y) with
    | true =>
      have hxy := of_decide_eq_true hc
      refine ⟨x :: y :: l, rfl, ?_, fun z hz => by simpa using hz⟩
      rw [List.pairwise_cons, List.pairwise_cons]
      refine ⟨fun z hz => ?_, h.1, h.2⟩
      rcases List.mem_cons.1 hz with rfl | hz
      · omega
      · have := h.1 z hz; omega
    | false =>
      have hxy := of_decide_eq_false hc
      obtain ⟨r, e, hr, hm⟩ := insD_sorted x h.2
      refine ⟨y :: r, by rw [List.map_cons, ← e]; rfl, ?_, fun z hz => ?_⟩
      · rw [List.pairwise_cons]
        refine ⟨fun z hz => ?_, hr⟩
        rcases hm z hz with rfl | hz
        · omega
        · exact h.1 z hz
      · rcases List.mem_cons.1 hz with rfl | hz
        · simp
        · rcases hm z hz with rfl | hz <;> simp [*]
theorem sortD_sorted : ∀ l : List Int, ∃ r : List Int, sortD (l.map dI) = r.map dI ∧ r.Pairwise (· ≤ ·)
  | [] => ⟨[], rfl, .nil⟩
  | x :: l => by
    obtain ⟨r, e, hr⟩ := sortD_sorted l
    obtain ⟨s, e2, hs, _⟩ := insD_sorted x hr
    exact ⟨s, by rw [List.map_cons, sortD, e, e2], hs⟩
theorem dI_inj {x y : Int} (h : dI x = dI y) : x = y := by simpa [dI] using h
theorem sortI_eq (zs : List Int) : (zs.mergeSort fun x y => decide (x ≤ y)).map dI = sortD (zs.map dI) := by
  obtain ⟨r, e, hr⟩ := sortD_sorted zs
  have hp : r.Perm zs := by
    have h1 : (r.map dI).Perm (zs.map dI) := by rw [← e]; exact sortD_perm _
    have := h1.map intOfD
    simpa [List.map_map, Function.comp_def, intOfD, dI] using this
  rw [e]
  congr 1
  have e1 : zs.mergeSort leI = r.mergeSort leI := mergeSort_of_perm_i hp.symm
  refine e1.trans (List.mergeSort_of_pairwise ?_)
  exact hr.imp fun h => by simpa [leI] using h
/-- A row of ints. -/
theorem row_int {w : World} {fz : Nat → Nat} : ∀ {l : List Int} {cs : List Value}, cs.take l.length = l.map encZ → RRow w fz 1 (l.map dI) cs
  | [], cs, _ => by simp [RRow]
  | x :: l, cs, h => by
    cases cs with
    | nil => simp at h
    | cons c cs =>
      simp only [List.length_cons, List.take_succ_cons, List.map_cons, List.cons.injEq] at h
      obtain ⟨rfl, h2⟩ := h
      refine ⟨by simp, ?_, ?_⟩
      · simp [RDc, dI]
      · simpa using row_int h2
theorem row_ints {w : World} {fz : Nat → Nat} {s : Nat} (hs : 0 < s) : ∀ {l : List Int} {cs : List Value}, l ≠ [] → RRow w fz s (l.map dI) cs → s = 1 ∧ ∀ j, j < l.length → cs[j]? = some (.int .i64 (l[j]?.getD 0))
  | [], cs, h, _ => absurd rfl h
  | x :: l, cs, _, h => by
    simp only [List.map_cons, RRow, dI, RDc] at h
    obtain ⟨h1, h2, h3⟩ := h
    have hs1 : s = 1 := by
      have := congrArg List.length h2
      simp at this
      omega
    subst hs1
    refine ⟨rfl, fun j hj => ?_⟩
    cases j with
    | zero =>
      cases cs with
      | nil => simp at h1
      | cons c cs => simp at h2; simp [h2]
    | succ j =>
      have hne : l ≠ [] := fun e => by subst e; simp at hj
      have := (row_ints (w := w) (fz := fz) Nat.one_pos hne h3).2 j (by simpa using hj)
      rw [List.getElem?_drop] at this
      simpa [Nat.add_comm] using this
/-- The slice value sv holds the ints zs. -/
def IntsAt (w : World) (sv : Value) (zs : List Int) : Prop :=
  (∃ A c, sv = .slice A 0 c ∧ zs = []) ∨ ∃ b off cap, sv = .slice (some ⟨b, off, none⟩) zs.length cap ∧ b < w.heap.size ∧ ∀ j, j < zs.length → w.cell? ⟨b, off + j, none⟩ = some (.int .i64 (zs[j]?.getD 0))
section
variable {P : Program} {I : Inj} {M : Mem} {h : Heap}
theorem elems_ints {x : AV} {zs : List Int} {u : Value} (hH : RH I M h) (rx : RV I M x u) (he : elems x h = some (zs.map dI)) : ∃ A c, u = .slice A zs.length c ∧ (zs ≠ [] → ∃ b off, A = some ⟨b, off, none⟩ ∧ b < M.w.heap.size ∧ ∀ j, j < zs.length → M.w.cell? ⟨b, off + j, none⟩ = some (.int .i64 (zs[j]?.getD 0))) := by
  have go : ∀ {A : Option Addr} {c : Nat}, u = .slice A (zs.map dI).length c → (zs.map dI ≠ [] → ∃ b o s', A = some ⟨b, o, none⟩ ∧ 0 < s' ∧ RRow M.w M.fz s' (zs.map dI) ((cellsOf M.w b).drop o)) → ∃ A c, u = .slice A zs.length c ∧ (zs ≠ [] → ∃ b off, A = some ⟨b, off, none⟩ ∧ b < M.w.heap.size ∧ ∀ j, j < zs.length → M.w.cell? ⟨b, off + j, none⟩ = some (.int .i64 (zs[j]?.getD 0))) := by
    intro A c hu hr
    refine ⟨A, c, by simpa using hu, fun hne => ?_⟩
    obtain ⟨b, o, s', h1, h2, h3⟩ := hr (by simpa using hne)
    obtain ⟨rfl, h4⟩ := row_ints h2 hne h3
    refine ⟨b, o, h1, ?_, fun j hj => ?_⟩
    · rcases Nat.lt_or_ge b M.w.heap.size with hb | hb
      · exact hb
      · rw [cellsOf_none hb] at h4
        have := h4 0 (List.length_pos_iff.2 hne)
        simp at this
    · have := h4 j hj
      rw [List.getElem?_drop] at this
      rw [cell_eq]
      exact this
  unfold elems at he
  split at he
  · simp only [Option.some.injEq] at he
    have := rx.dcell rfl
    simp only [RDc] at this
    obtain ⟨A, c, e1⟩ := this
    simp only [List.cons.injEq, and_true] at e1
    exact go (by rw [← he]; exact e1) (fun h => absurd he.symm h)
  · simp only [Option.some.injEq] at he
    rw [he] at rx
    obtain ⟨A, c, e1, _, _, hr⟩ := rx.slD
    exact go e1 fun hne => let ⟨b, o, s, h1, h2, _, h4⟩ := hr hne; ⟨b, o, s, h1, h2, h4⟩
  · simp only [Option.some.injEq] at he
    rw [he] at rx
    obtain ⟨A, e1, hr⟩ := rx.zlD
    exact go e1 fun hne => let ⟨b, o, s, h1, h2, _, h4⟩ := hr hne; ⟨b, o, s, h1, h2, h4⟩
  · simp only [Option.some.injEq] at he
    rw [he] at rx
    obtain ⟨A, c, e1, _, hr⟩ := rx.bsD
    exact go e1 fun hne => let ⟨b, o, s, h1, h2, _, h4⟩ := hr hne; ⟨b, o, s, h1, h2, h4⟩
  · rename_i n lo m
    obtain ⟨q, A, hq, e1, hle, hA⟩ := rx.slR
    split at he
    · rename_i s0 l z hob
      obtain ⟨g1, g2, g3⟩ := sub_spec he
      have hro := (hH.ob n _ q hob hq).2.2
      simp only [RO] at hro
      obtain ⟨f0, fs, c, el, f1, f2, f3, f4, f5⟩ := hro
      rw [← g3] at e1
      refine go e1 fun hne => ?_
      have hpos : 0 < (zs.map dI).length := List.length_pos_iff.2 hne
      rcases hA with hA | hA
      · omega
      · refine ⟨q.b, _, q.s, hA, fs, ?_⟩
        rw [cellsOf_at f1, g2]
        have := (f4.drop lo).take m
        rwa [List.drop_drop] at this
    · cases he
  · cases he
end
/-- An iterator's contract for callers whose invariant says that old memory stays. -/
def SeqGivesJ (F : Fence) (n : Nat) (P : Program) (g : Nat) (lb : Array Value) (S : List Int → Prop) (N : Nat) (w : World) : Prop :=
  ∀ (l : Nat) (J : List Int → World → Prop) (W : World), Below w.heap.size w W → AbidesFrom W.heap.size J → (∀ pre W1, J pre W1 → Below w.heap.size w W1) →
    (∀ pre x W1, J pre W1 → pre.length < N → YieldAt F (n - 1) P l #[encZ x] W1 fun e W' => e = .returned (.bool true) ∧ J (pre ++ [x]) W' ∧ KeepsWalks W1 W') →
    J [] W →
    CallsIn F n P g (#[.func (.yield l) #[] #[]] ++ lb) W fun e W' => (∃ v, e = .returned v) ∧ ∃ xs, S xs ∧ J xs W'
end Tm
/- slices.Sorted over slices.Values at int, by the machine. No statement of the seat is proved here. -/
set_option linter.unusedVariables false
set_option linter.unusedSimpArgs false
namespace Tm
open Go Go.Shelf Go.RowKit Go.Maps Go.Sort
open Go.Proofs
section
variable {P : Program} {ρ : Ren}
set_option maxRecDepth 100000 in
set_option maxHeartbeats 2000000 in
/-- slices.AppendSeq(nil, seq) where seq is promised to a caller that keeps old memory. -/
theorem appendSeqJ (L : SlLaysZI.n11 P ρ) (F : Fence) (n : Nat) (h11 : F.fn (ρ.f 11)) (hro : F.round = none) (hn : 2 ≤ n) (g : Nat) (lb : Array Value) (hFg : F.fn g) (eg : ∀ args w, (callFunc g args).run P w = .ok (.enter g args) w)
    (S : List Int → Prop) (N : Nat) (hN : N ≤ maxLen) (hNb : N * 8 ≤ 140737488355328) (w : World) (hseq : SeqGivesJ F (n - 1) P g lb S N w) :
    CallsIn F n P (ρ.f 11) #[.slice none 0 0, .func (.func g) #[] lb] w fun e w' => ∃ (v : Value) (ss : List Int), e = .returned v ∧ S ss ∧ w'.ownsRow w.heap.size (ρ.t 26) 1 v ss.length (ss.map encZ) ∧ (v = .slice none 0 0 ↔ ss = []) ∧ Below w.heap.size w w' := by
  have h1 : 1 ≤ n := by omega
  have mixed := L.mixed; have t0 := L.t0; have a0 := L.a0; have z0 := L.z0; have v0 := L.v0; have t24 := L.t24; have a24 := L.a24; have z24 := L.z24; have v24 := L.v24; have t26 := L.t26; have a26 := L.a26; have z26 := L.z26; have v26 := L.v26; have t28 := L.t28; have a28 := L.a28; have z28 := L.z28; have v28 := L.v28
  have hne : ρ.t 24 ≠ ρ.t 26 := fun e => by have h := L.t24; rw [e, L.t26] at h; cases h
  have u0 := Go.run_underlying L.t0; have u24 := Go.run_underlying L.t24; have u26 := Go.run_underlying L.t26; have u28 := Go.run_underlying L.t28
  obtain ⟨_, _, FG⟩ := L.f11
  refine callsIn_of_wp_marks FG rfl h11 ?_ hro
  simp only [SlBodyZ.n11_ntmps ρ, List.size_toArray, List.length_cons, List.length_nil, Nat.reduceAdd, Nat.reduceSub, Array.replicate_succ, Array.replicate_zero, List.push_toArray, List.append_toArray, List.nil_append, List.cons_append]
  gi_wp2
  refine wpIn_rangeFunc ?_
  intro fn hfn
  rw [hro]
  obtain ⟨W0, hW0⟩ : ∃ W0, w.alloc (.cells #[.slice none 0 0] (ρ.t 24)) = W0 := ⟨_, rfl⟩
  have hs0 : W0.heap.size = w.heap.size + 1 := by rw [← hW0]; simp
  have hv0 : W0.heap[w.heap.size]? = some (.cells #[.slice none 0 0] (ρ.t 24) (0, 0)) := by rw [← hW0]; exact World.alloc_heap_new w _
  have hb0 : Below w.heap.size w W0 := by rw [← hW0]; exact (Below.refl _ w).alloc (Nat.le_refl _) _
  rw [hW0]
  obtain ⟨W1, hW1⟩ : ∃ W1, (W0.alloc (.deferred (some []))).alloc (.loop (AnyZI.apRec ρ fn (.func (.func g) #[] lb) w.heap.size W0.heap.size .ready none)) = W1 := ⟨_, rfl⟩
  have hold : ∀ k, k < W0.heap.size → W1.heap[k]? = W0.heap[k]? := fun k hk => by
    rw [← hW1]; exact (Below.heap_alloc _ _ k (by simp; omega)).trans (Below.heap_alloc _ _ k hk)
  have hb1 : Below w.heap.size w W1 := by rw [← hW1]; exact (hb0.alloc hb0.size _).alloc (by have := hb0.size; simp; omega) _
  have hs1 : W1.heap.size = W0.heap.size + 2 := by rw [← hW1]; simp
  have hM : AnyZI.ApAt ρ w fn (.func (.func g) #[] lb) w.heap.size (W0.heap.size + 1) W0.heap.size [] W1 :=
    ⟨⟨_, (hold w.heap.size (by omega)).trans hv0, ⟨rfl, .inl ⟨rfl, rfl⟩⟩, by simp⟩,
     by rw [← hW1]; have := World.alloc_heap_new (W0.alloc (.deferred (some []))) (.loop (AnyZI.apRec ρ fn (.func (.func g) #[] lb) w.heap.size W0.heap.size .ready none)); rwa [World.size_alloc] at this,
     by rw [← hW1]; exact (Below.heap_alloc _ _ _ (by simp)).trans (World.alloc_heap_new W0 _), hb1⟩
  refine ⟨W0.heap.size + 1, [{ target := .collected W0.heap.size, args := #[] }], W1, { target := .fn (.func g) lb, args := #[.func (.yield (W0.heap.size + 1)) #[] #[]] }, W1, g,
    #[.func (.yield (W0.heap.size + 1)) #[] #[]] ++ lb, W1, ?_, ?_, ?_, ?_, fun _ => h1, ?_⟩
  · rw [← hW1]; exact run_enterLoop_outer _ _ _ _ _
  · simp [resolve, go_sem]
  · intro f' hf'; simp [Target.leads] at hf'; subst hf'; exact hFg
  · simp [invoke, go_sem, eg]
  · refine (hseq (W0.heap.size + 1) (AnyZI.ApAt ρ w fn (.func (.func g) #[] lb) w.heap.size (W0.heap.size + 1) W0.heap.size) W1 hb1 (AnyZI.ap_abides ρ _ _ _ _ _ _ _ hb1.size) (fun pre W hJ => hJ.below)
      (fun pre x W hJ hl => AnyZI.apYield { L with } F (n - 1 - 1) w fn hfn _ w.heap.size (W0.heap.size + 1) W0.heap.size (by omega) (by omega) (by omega) (Nat.le_refl _) (by omega) N hN hNb pre x W hJ hl) hM).mono ?_
    rintro e W2 ⟨⟨v0, rfl⟩, ss, hS, h2⟩
    obtain ⟨v, hv, hrow, hnil⟩ := h2.box
    have hend := run_endLoop (P := P) h2.L (by simp [AnyZI.apRec])
    obtain ⟨W3, hW3⟩ : ∃ W3, W2.putObj (W0.heap.size + 1) (.loop { AnyZI.apRec ρ fn (.func (.func g) #[] lb) w.heap.size W0.heap.size .ready none with state := .exhausted }) = W3 := ⟨_, rfl⟩
    rw [hW3] at hend
    have hg3 : W2.grownBy W3 (some (W0.heap.size + 1)) := by rw [← hW3]; exact grownBy_putObj_a _ _ _
    have hv3 : W3.heap[w.heap.size]? = some (.cells #[v] (ρ.t 24) (0, 0)) := by rw [← hW3]; exact (World.putObj_heap_other (by omega)).trans hv
    have hK3 : W3.heap[W0.heap.size]? = some (.deferred (some [])) := by rw [← hW3]; exact (World.putObj_heap_other (by omega)).trans h2.K
    have hrow3 := hrow.kept hg3 (ownsRow_ne_a hrow h2.L (fun cur e => by first | cases e | exact hne (Obj.cells.inj e).2.1))
    have hb3 : Below w.heap.size w W3 := h2.below.grown hg3 h2.below.size (fun k e => by cases e; omega)
    obtain ⟨hc3, hf3⟩ := cell_of_box_a hv3
    clear hW3
    refine ⟨none, W3, hend, ?_⟩
    gi_wp2
    rw [← hs0]
    refine ⟨by simp, .inl ⟨_, _, rfl, run_takeDeferred hK3, ?_⟩⟩
    exact ⟨_, results_tmp rfl _ _ _, v, ss, rfl, hS, hrow3.kept (grownBy_putObj_a _ _ _) (ownsRow_ne_a hrow3 hK3 (fun cur e => by first | cases e | exact hne (Obj.cells.inj e).2.1)), hnil, hb3.grown (grownBy_putObj_a _ _ _) hb3.size (fun k e => by cases e; omega)⟩
set_option maxHeartbeats 1000000 in
theorem collectJ (L : SlLaysZI.n8 P ρ) (F : Fence) (n : Nat) (h8 : F.fn (ρ.f 8)) (h11 : F.fn (ρ.f 11)) (hro : F.round = none) (hn : 3 ≤ n) (g : Nat) (lb : Array Value) (hFg : F.fn g) (eg : ∀ args w, (callFunc g args).run P w = .ok (.enter g args) w)
    (S : List Int → Prop) (N : Nat) (hN : N ≤ maxLen) (hNb : N * 8 ≤ 140737488355328) (w : World) (hseq : SeqGivesJ F (n - 1 - 1) P g lb S N w) :
    CallsIn F n P (ρ.f 8) #[.func (.func g) #[] lb] w fun e w' => ∃ (v : Value) (ss : List Int), e = .returned v ∧ S ss ∧ w'.ownsRow w.heap.size (ρ.t 26) 1 v ss.length (ss.map encZ) ∧ (v = .slice none 0 0 ↔ ss = []) ∧ Below w.heap.size w w' := by
  have h1 : 1 ≤ n := by omega
  have e11 : ∀ args w, (callFunc (ρ.f 11) args).run P w = .ok (.enter (ρ.f 11) args) w := L.f11.enters rfl
  have mixed := L.mixed; have t0 := L.t0; have a0 := L.a0; have z0 := L.z0; have v0 := L.v0; have t24 := L.t24; have a24 := L.a24; have z24 := L.z24; have v24 := L.v24; have t26 := L.t26; have a26 := L.a26; have z26 := L.z26; have v26 := L.v26; have t28 := L.t28; have a28 := L.a28; have z28 := L.z28; have v28 := L.v28
  have u0 := Go.run_underlying L.t0; have u24 := Go.run_underlying L.t24; have u26 := Go.run_underlying L.t26; have u28 := Go.run_underlying L.t28
  obtain ⟨_, _, FG⟩ := L.f8
  refine callsIn_of_wp FG rfl h8 ?_ hro
  simp only [SlBodyZ.n8_ntmps ρ, List.size_toArray, List.length_cons, List.length_nil, Nat.reduceAdd, Nat.reduceSub, Array.replicate_succ, Array.replicate_zero, List.push_toArray, List.append_toArray, List.nil_append, List.cons_append]
  gi_wp2_with (gi_at_fn (ρ.f 11); refine (appendSeqJ { L with } F (n - 1) h11 hro (by omega) g lb hFg eg S N hN hNb _ hseq).mono ?_; rintro e w' ⟨v, ss, rfl, hS, hrow, hnil, hb⟩)
  go_ret
  exact ⟨v, ss, rfl, hS, hrow, hnil, hb⟩
set_option maxRecDepth 100000 in
set_option maxHeartbeats 2000000 in
theorem sortedJ (L : SlLaysZI.n6 P ρ) (F : Fence) (n : Nat) (h6 : F.fn (ρ.f 6)) (h8 : F.fn (ρ.f 8)) (h9 : F.fn (ρ.f 9)) (h11 : F.fn (ρ.f 11)) (hro : F.round = none) (hn : 4 ≤ n) (hsort : AnyZI.SortsIn P ρ F (n - 1)) (e9 : ∀ args w, (callFunc (ρ.f 9) args).run P w = .ok (.enter (ρ.f 9) args) w) (g : Nat) (lb : Array Value) (hFg : F.fn g) (eg : ∀ args w, (callFunc g args).run P w = .ok (.enter g args) w)
    (zs : List Int) (N : Nat) (hzs : zs.length ≤ N) (hN : N ≤ maxLen) (hNb : N * 8 ≤ 140737488355328) (w : World) (hseq : SeqGivesJ F (n - 1 - 1 - 1) P g lb (· = zs) N w) :
    CallsIn F n P (ρ.f 6) #[.func (.func g) #[] lb] w fun e w' => ∃ (v : Value), e = .returned v ∧
      w'.ownsRow w.heap.size (ρ.t 26) 1 v zs.length ((zs.mergeSort (fun x y => decide (x ≤ y))).map encZ) ∧ (v = .slice none 0 0 ↔ zs = []) ∧ Below w.heap.size w w' := by
  have h1 : 1 ≤ n := by omega
  have e8 : ∀ args w, (callFunc (ρ.f 8) args).run P w = .ok (.enter (ρ.f 8) args) w := L.f8.enters rfl
  have mixed := L.mixed; have t0 := L.t0; have a0 := L.a0; have z0 := L.z0; have v0 := L.v0; have t24 := L.t24; have a24 := L.a24; have z24 := L.z24; have v24 := L.v24; have t26 := L.t26; have a26 := L.a26; have z26 := L.z26; have v26 := L.v26; have t28 := L.t28; have a28 := L.a28; have z28 := L.z28; have v28 := L.v28
  have u0 := Go.run_underlying L.t0; have u24 := Go.run_underlying L.t24; have u26 := Go.run_underlying L.t26; have u28 := Go.run_underlying L.t28
  obtain ⟨_, _, FG⟩ := L.f6
  refine callsIn_of_wp FG rfl h6 ?_ hro
  simp only [SlBodyZ.n6_ntmps ρ, List.size_toArray, List.length_cons, List.length_nil, Nat.reduceAdd, Nat.reduceSub, Array.replicate_succ, Array.replicate_zero, List.push_toArray, List.append_toArray, List.nil_append, List.cons_append]
  gi_wp2_with (gi_at_fn (ρ.f 8); refine (collectJ { L with } F (n - 1) h8 h11 hro (by omega) g lb hFg eg _ N hN hNb _ hseq).mono ?_; rintro e W ⟨v, ss, rfl, rfl, hrow, hnil, hb⟩)
  rcases hrow.2 with ⟨rfl, hz⟩ | ⟨gb, cap, cur, rfl, hbase, hgb, r1, r2, r3, r4⟩
  · have hss : ss = [] := List.eq_nil_of_length_eq_zero hz
    subst hss
    gi_wp2_with (gi_at_fn (ρ.f 9); refine (hsort.2 none 0 W).mono ?_; rintro e w' ⟨rfl, rfl⟩)
    go_ret
    exact ⟨.slice none 0 0, rfl, by simpa using hrow, by simp, hb⟩
  · have hH : Holds encZ W gb 0 ss.toArray := holds_of_block_i hgb (by simpa using r4)
    have hgl : gb < W.heap.size := (Array.getElem?_eq_some_iff.1 hgb).1
    have hsz : ss.length < 4611686018427387904 := by omega
    have cS := hsort.1 gb 0 cap ss W hH hgl hsz
    gi_wp2_with (gi_at_fn (ρ.f 9); refine cS.mono ?_; rintro e w' ⟨rfl, nn, os, rfl⟩)
    go_ret
    exact ⟨_, rfl, ownsRow_sorted_i (by simp) hbase hgb r1 r2 r3, hnil, hb.grown (grownBy_sorted_i _) hb.size (fun j hj => by cases hj; exact hbase)⟩
end
section
variable {P : Program} {G : Nat → Option AV} {F : Nat → Option CFun} {I : Inj} {M : Mem} {ρS ρM : Ren}
theorem sortsI_of (LM : Go.Proofs.SlLaysM.n5 P ρM) (he : ρS.f 9 = ρM.f 5) (m : Nat) : Go.Proofs.AnyZI.SortsIn P ρS Fence.wide m := by
  unfold Go.Proofs.AnyZI.SortsIn
  rw [he]
  exact ⟨fun blk off cap ss W hH hblk hsz => callsIn_wide.2 (Go.Proofs.AnyM.slices_Sort_int LM blk off cap ss W hH hblk hsz), fun p cap W => callsIn_wide.2 (Go.Proofs.AnyM.slices_Sort_int_none LM p cap W)⟩
def cSoI (gk : Nat) : CFun := ⟨[(.t 1, none)], .reg 1 [(0, { dst := some 1, guard := none, op := .sorted false gk (.t 0) })], false, false, false, true⟩
/-- What is asked of the iterator of slices.Values. -/
def ValuesGive (P : Program) (gv : Nat) : Prop := ∀ (n Bs : Nat) (sv : Value) (zs : List Int) (w : World), 1 ≤ n → Bs < w.heap.size → zs.length * 8 ≤ 140737488351232 → w.cell? ⟨Bs, 0, none⟩ = some sv → IntsAt w sv zs → SeqGivesJ Fence.wide n P gv #[.pointer (some ⟨Bs, 0, none⟩)] (· = zs) zs.length w
theorem spec_soI {k gv : Nat} (LS : Go.Proofs.SlLaysZI.n6 P ρS) (hV : ValuesGive P gv) (hs : ∀ m, Go.Proofs.AnyZI.SortsIn P ρS Fence.wide m) {fn : Func} (hf : P.funcs[ρS.f 6]? = some fn) (hnm : (fn.name == "runtime.NumGoroutine") = false) (hbd : fn.body.isSome = true)
    (e9 : ∀ args w, (callFunc (ρS.f 9) args).run P w = .ok (.enter (ρS.f 9) args) w) (eK : ∀ args w, (callFunc gv args).run P w = .ok (.enter gv args) w) : RunOK P G F k (ρS.f 6) (cSoI gv) := by
  refine ⟨⟨fn, hf, hnm, hbd⟩, fun args h n s l har hev hl I M vs hG hH hfr hA => ?_⟩
  have hlen : args.length = 1 := by
    rcases har with har | har
    · cases har
    · simpa [arOK, cSoI] using har
  match args, hlen with
  | [x], _ =>
  obtain ⟨X, r1, rfl, rx, hA⟩ := hA
  simp only [Args] at hA
  subst hA
  have hnb : ev F k (cSoI gv).body ⟨initE 0 [x] .lf, h, n⟩ ≠ .bad := by rcases hev with e | e <;> rw [e] <;> simp
  obtain ⟨s1, h1, h2⟩ := reg_inv hnb
  have hs1 : s = s1 := by
    have h3 : ev F k (cSoI gv).body ⟨initE 0 [x] .lf, h, n⟩ = .nor s1 := h2
    rw [h3] at hev
    rcases hev with e | e <;> cases e
    rfl
  subst hs1
  obtain ⟨v1, h', n', d1, _, h3⟩ := evOps_one h1
  simp only [evOps, Option.some.injEq] at h3
  obtain ⟨t1, rfl⟩ := doOp_ev d1 rfl
  have g0 : (Opd.t 0).ev (initE 0 [x] .lf) = x := by simp [Opd.ev, initE, T.get_set]
  simp only [evOp, g0] at t1
  have hl' : l = [v1] := by
    rw [← h3] at hl
    simp only [cSoI, resVs, resV, Opd.ev, putE, T.gs, Option.getD_some, bif_none, Option.some.injEq] at hl
    exact hl.2.symm
  subst hl'
  have hsn : s.n = n + 1 := by rw [← h3]
  have hsh : s.h = h' := by rw [← h3]
  split at t1
  case h_2 => cases t1
  rename_i g' a hl1 hl2
  cases hc : (g' == gv && (h.get (n + 0)).isNone) with
  | false => rw [hc] at t1; cases t1
  | true =>
  rw [hc] at t1
  simp only [cond_true] at t1
  simp only [Bool.and_eq_true, beq_iff_eq, Option.isNone_iff_eq_none, Nat.add_zero] at hc
  obtain ⟨hgv, hfree⟩ := hc
  subst hgv
  split at t1
  case h_2 => cases t1
  rename_i xv hga
  split at t1
  case h_2 => cases t1
  rename_i l0 hel
  cases hok : (l0.all isI64 && Nat.blt l0.length 65536) with
  | false => rw [hok] at t1; cases t1
  | true =>
  rw [hok] at t1
  simp only [cond_true] at t1
  simp only [Bool.and_eq_true, Nat.blt_eq] at hok
  obtain ⟨ho, hkl⟩ := hok
  obtain ⟨zs, hzs⟩ : ∃ zs : List Int, l0 = zs.map dI := ⟨_, isI64_spec ho⟩
  subst hzs
  have rc := rx.cellOf rfl
  simp only [RVc] at rc
  obtain ⟨fa, fb, e1, e2, e3⟩ := rc
  simp only [List.cons.injEq, and_true] at e1
  subst e1
  simp only [RVl] at e2 e3
  obtain ⟨pv, pr, e4, e5, e6⟩ := e3
  rcases e5 with e5 | ⟨e5, qa, hqa, e7⟩
  · cases e5
  have hpv : pv = .pointer (some ⟨qa.b, qa.o + 0, none⟩) := by
    cases pv with
    | agg cs => simp [agV, isAgg] at e5
    | pointer p => simpa [Value.cells] using e7
    | _ => simp [Value.cells] at e7
  subst hpv
  obtain ⟨_, _, ra⟩ := hH.ob a _ qa hga hqa
  simp only [RO, RVs] at ra
  obtain ⟨c, el, hcell, ho0, ⟨mv, mr, e8, hnag, hm, e9'⟩, _⟩ := ra
  obtain ⟨A, cp, hmv, hint⟩ := elems_ints hH (.inl (RV1.of hnag hm)) hel
  have hfa : fa = #[] := Array.toList_eq_nil_iff.1 e2
  have hfb : fb = #[.pointer (some ⟨qa.b, 0, none⟩)] := by
    rw [← Array.toArray_toList (xs := fb), e4, e6, ho0]
  subst hfa hfb
  have hcl : M.w.cell? ⟨qa.b, 0, none⟩ = some mv := by
    rw [cell_eq, cellsOf_at hcell, e8]
    rfl
  have hlt : qa.b < M.w.heap.size := (Array.getElem?_eq_some_iff.1 hcell).1
  have hzl : zs.length < 65536 := by simpa using hkl
  have h16 : 65536 ≤ maxLen := by decide
  have hI : IntsAt M.w mv zs := by
    by_cases hne : zs = []
    · subst hne
      exact .inl ⟨A, cp, hmv, rfl⟩
    · obtain ⟨b, off, rfl, hb, hc⟩ := hint hne
      exact .inr ⟨b, off, cp, hmv, hb, hc⟩
  have hseq := hV 2 qa.b mv zs M.w (by omega) hlt (by omega) hcl hI
  have cS := sortedJ LS Fence.wide 5 trivial trivial trivial trivial rfl (by omega) (hs _) e9 g' #[.pointer (some ⟨qa.b, 0, none⟩)] trivial eK zs zs.length (Nat.le_refl _) (by omega) (by omega) M.w hseq
  refine (callsIn_wide (n := 5)).1 (cS.mono ?_)
  rintro e w' ⟨v, rfl, hrow, hnil, hb⟩
  obtain ⟨hx, hsame, hz, hwf⟩ := ext_below hH.wf hH.lo hb
  have hfn : I n = none := hfr n (Nat.le_refl _)
  have hold : ∀ y ob p, h.get y = some ob → I y = some p → Same M ⟨w', M.fz, M.lo⟩ p.b := fun y ob p hy hp => hsame _ (hH.ob y ob p hy hp).2.1
  split at t1
  · rename_i hnl
    simp only [Option.some.injEq, Prod.mk.injEq] at t1
    obtain ⟨rfl, rfl⟩ := t1
    have hss : zs = [] := by simpa using hnl
    have hv := hnil.2 hss
    subst hv
    refine ⟨[.slice none 0 0], ⟨w', M.fz, M.lo⟩, I, rfl, rfl, hx, Le.refl I, fun x hx => .inl hx, by omega, by rw [hsh]; exact hH.keep hx hold hwf, ?_⟩
    simp only [Outs]
    exact ⟨_, _, rfl, RV1.of rfl (by simp [RVc]), rfl⟩
  · rename_i hne
    simp only [Option.some.injEq, Prod.mk.injEq, Nat.add_zero] at t1
    obtain ⟨rfl, rfl⟩ := t1
    have hpos : zs.length ≠ 0 := fun e => hne (by simp [List.eq_nil_of_length_eq_zero e])
    rcases hrow.2 with ⟨_, h0⟩ | ⟨gb, cap, cur, rfl, r0, r1, r2, r3, r4, r5⟩
    · omega
    have hsl : (sortD (zs.map dI)).length = zs.length := by rw [(sortD_perm _).length_eq, List.length_map]
    have hcap : cap ≤ 9223372036854775807 := by
      have : maxLen ≤ 9223372036854775807 := by decide
      omega
    have hro : RO (I.set n ⟨gb, 0, cap, 1⟩) ⟨w', M.fz, M.lo⟩ ⟨gb, 0, cap, 1⟩ (.row 1 (sortD (zs.map dI)) false) := by
      simp only [RO]
      refine ⟨trivial, Nat.one_pos, cur, _, r1, by simp [r4], by rw [hsl]; exact r2, ?_, by rw [hz gb r0]; exact Nat.zero_le _⟩
      rw [← sortI_eq, List.drop_zero]
      refine row_int ?_
      rw [← r5, Nat.mul_one]
      congr 1
      simp
    refine ⟨[.slice (some ⟨gb, 0, none⟩) zs.length cap], ⟨w', M.fz, M.lo⟩, I.set n ⟨gb, 0, cap, 1⟩, rfl, rfl, hx, Inj.set_le _ hfn, fun y hy => ?_, by omega, ?_, ?_⟩
    · by_cases hyn : y = n
      · exact .inr (by omega)
      · exact .inl (by simpa [Inj.set, hyn] using hy)
    · rw [hsh]
      refine hH.add hx hfn hold hwf (by show M.lo ≤ gb; have := hH.lo; omega) (Array.getElem?_eq_some_iff.1 r1).1 hro (fun y ob p hy hp e => ?_) hcap
      have := (hH.ob y ob p hy hp).2.1
      have e' : p.b = gb := e
      omega
    · simp only [Outs]
      refine ⟨_, _, rfl, RV1.of rfl ?_, rfl⟩
      simp only [RVc]
      exact ⟨_, _, Inj.set_same, by simp, by rw [Nat.zero_add, List.length_map]; exact r2, .inr rfl⟩
end
end Tm
