/- The abstract machine on trees, part L. No statement of the seat is proved here. -/
import Derived.Sort.KeysCollected
import Derived.Sort.Walk0
import Derived.Maps.Own
import Derived.Shelf.SlIter.Nil
import Derived.Shelf.SortM.Plain
import Derived.Shelf.SortM.SortNone
import Derived.Test.YtnpmddhindidgaaGreatDoorTmJ
import Derived.Test.YtnpmddhindidgaaGreatDoorTmK
set_option linter.unusedVariables false
set_option linter.unusedSimpArgs false
set_option linter.constructorNameAsVariable false
set_option linter.unusedSectionVars false
set_option linter.deprecated false
/- slices.Sorted over maps.Keys: lists of keys, plain. No statement of the seat is proved here. -/
set_option linter.unusedVariables false
set_option linter.unusedSimpArgs false
namespace Tm
open Go Go.Maps Go.WideElems Go.WideShapes Go.MapKept Go.ChangeMaps
open Go.Proofs (encStr)
theorem insD_perm (x : D) : ∀ l : List D, (insD x l).Perm (x :: l)
  | [] => .refl _
  | y :: l => by
    simp only [insD]
    cases lessD x y with
    | true => exact .refl _
    | false => exact ((insD_perm x l).cons y).trans (.swap x y l)
theorem sortD_perm : ∀ l : List D, (sortD l).Perm l
  | [] => .refl _
  | x :: l => (insD_perm x _).trans ((sortD_perm l).cons x)
/-- A key as the list of its bytes. -/
def bsOf : D → List UInt8
  | .s b => b.data.toList
  | _ => []
theorem bs_str {b : ByteArray} : (⟨b.data.toList.toArray⟩ : ByteArray) = b := by simp
theorem strsOk_spec : ∀ {l : List D}, strsOk true l = true → (∀ x ∈ l, ∃ b : ByteArray, x = .s b ∧ b.size < 65536) ∧ (l.map bsOf).Pairwise (· < ·)
  | [], _ => ⟨fun x hx => (by simp at hx), .nil⟩
  | x :: l, h => by
    simp only [strsOk, Bool.and_eq_true, List.all_eq_true] at h
    obtain ⟨⟨h1, h2⟩, h3⟩ := h
    obtain ⟨g1, g2⟩ := strsOk_spec h3
    have hx : ∃ b : ByteArray, x = .s b ∧ b.size < 65536 := by
      cases x with
      | s b => exact ⟨b, rfl, by simpa using h1⟩
      | i k m => cases k <;> simp at h1
      | _ => simp at h1
    refine ⟨fun y hy => ?_, ?_⟩
    · rcases List.mem_cons.1 hy with rfl | hy
      · exact hx
      · exact g1 y hy
    · rw [List.map_cons, List.pairwise_cons]
      refine ⟨fun y hy => ?_, g2⟩
      obtain ⟨z, hz, rfl⟩ := List.mem_map.1 hy
      obtain ⟨b, rfl, _⟩ := hx
      obtain ⟨c, rfl, _⟩ := g1 z hz
      have := h2 _ hz
      simp only [lessD] at this
      rw [Go.Proofs.bytesLess_eq] at this
      simpa [bsOf, ByteArray.toList_eq] using this
theorem sorted_eq {ks : List D} {ss : List (List UInt8)} (h : strsOk true (sortD ks) = true) (hp : ss.Perm (ks.map bsOf)) : ss.mergeSort (fun x y => decide (x ≤ y)) = (sortD ks).map bsOf := by
  have e1 : ss.mergeSort leB = ((sortD ks).map bsOf).mergeSort leB := mergeSort_of_perm (hp.trans ((sortD_perm ks).symm.map bsOf))
  refine e1.trans (List.mergeSort_of_pairwise ?_)
  exact (strsOk_spec h).2.imp fun hab => by simpa [leB] using List.le_of_lt hab
theorem keys_nodup {ks : List D} (h : strsOk true (sortD ks) = true) : (ks.map bsOf).Nodup := by
  refine ((sortD_perm ks).map bsOf).nodup_iff.1 ?_
  exact (strsOk_spec h).2.imp fun hab e => by
    rw [e] at hab
    exact List.lt_irrefl _ hab
theorem keys_str {ks : List D} (h : strsOk true (sortD ks) = true) : ∀ x ∈ ks, ∃ b : ByteArray, x = .s b ∧ b.size < 65536 := fun x hx => (strsOk_spec h).1 x ((sortD_perm ks).mem_iff.2 hx)
theorem rds_str {w : World} {fz : Nat → Nat} : ∀ {ks : List D} {cs : List Value}, (∀ x ∈ ks, ∃ b : ByteArray, x = .s b ∧ b.size < 65536) → RDs w fz ks cs → cs = ks.map fun x => encStr (bsOf x)
  | [], cs, _, h => by simp only [RDs] at h; simp [h]
  | x :: ks, cs, hk, h => by
    simp only [RDs] at h
    obtain ⟨v, r, rfl, _, h2, h3⟩ := h
    obtain ⟨b, rfl, _⟩ := hk x (by simp)
    simp only [RDc, List.cons.injEq, and_true] at h2
    rw [h2, List.map_cons, rds_str (fun y hy => hk y (List.mem_cons_of_mem _ hy)) h3]
    simp [encStr, bsOf]
section
variable {P : Program} {I : Inj} {M : Mem}
theorem owns_of {k : TypeId} {b : Nat} {ks : List D} {vs : List AV} {es : Array MapEntry} (hk : P.underlying k = some .string) (hm : IsMap I M b ks vs es) (hl : ks.length < 65536) (ho : strsOk true (sortD ks) = true) :
    ∃ D0 : DataW Unit, M.w.ownsMap P k (fun _ => some (.nil, [])) b ks.length D0 ∧ (strKeys D0).Perm (ks.map bsOf) ∧ Maps.size D0 = ks.length := by
  obtain ⟨h1, h2, h3, h4⟩ := hm
  have hkeys := rds_str (keys_str ho) h2
  have hsz : es.size = ks.length := by simpa using congrArg List.length hkeys
  have hread : ∀ x ∈ es.toList, rd P k (fun _ => some (DataW.nil (H := Unit), ([] : List MemPlace))) x = some (.string (match x.key with | .string b => b.data.toList | _ => []), .nil) ∧ ∃ b : ByteArray, x.key = .string b := by
    intro x hx
    have : x.key ∈ es.toList.map (·.key) := List.mem_map_of_mem hx
    rw [hkeys] at this
    obtain ⟨y, hy, e⟩ := List.mem_map.1 this
    obtain ⟨b, rfl, hb⟩ := keys_str ho y hy
    have e2 : x.key = .string b := by rw [← e]; simp [encStr, bsOf]
    refine ⟨?_, b, e2⟩
    have hko : keyOf P k x.key = some (.string b.data.toList) := by
      rw [e2]
      have : b.size ≤ maxLen := by have : 65536 ≤ maxLen := by decide
                                   omega
      simp [keyOf, hk, mapKey, this]
    rw [e2] at hko
    simp only [WideElems.rd, e2, hko, Option.bind_some, Option.map_some]
  refine ⟨_, ⟨es, es.size, h1, ⟨?_, ⟨?_, ?_, ?_⟩, fun x hx => ⟨_, (hread x hx).1⟩⟩, by omega, rfl⟩, ?_, ?_⟩
  · have : 65536 ≤ maxLen := by decide
    omega
  · intro x hx
    have : x.born ∈ es.toList.map (·.born) := List.mem_map_of_mem hx
    rw [h4] at this
    exact List.mem_range.1 this
  · rw [h4]; exact List.nodup_range
  · rw [hkeys]
    exact List.pairwise_map.2 ((List.pairwise_map.1 (keys_nodup ho)).imp fun hne e => hne (encStr_inj e))
  · refine ((sorted_perm _).map (fun p : Lit × DataW Unit => strOf p.1)).trans ?_
    rw [List.map_map]
    refine List.Perm.of_eq ?_
    have e1 : es.toList.map ((fun p : Lit × DataW Unit => strOf p.1) ∘ rg P k fun _ => some (DataW.nil, [])) = (es.toList.map (·.key)).map fun v => match v with | Value.string b => b.data.toList | _ => [] := by
      rw [List.map_map]
      refine List.map_congr_left fun x hx => ?_
      obtain ⟨hr, b, hb⟩ := hread x hx
      simp [WideElems.rg, hr, hb, strOf]
    rw [e1, hkeys, List.map_map]
    refine List.map_congr_left fun x _ => ?_
    simp [encStr]
  · show (List.foldr DataW.insert [] _).length = _
    rw [(sorted_perm _).length_eq, List.length_map, Array.length_toList, hsz]
end
end Tm
/- slices.Sorted over maps.Keys at string, by the machine. No statement of the seat is proved here. -/
set_option linter.unusedVariables false
set_option linter.unusedSimpArgs false
namespace Tm
open Go Go.Shelf
open Go.Proofs (encStr AnyZ.SortsIn AnyZ.sorted_in AnyZ.keys_gives AnyM.slices_Sort_string AnyM.slices_Sort_string_none SlLaysZ.n6 SlLaysZ.n10 SlLaysM.n6)
section
variable {P : Program} {G : Nat → Option AV} {F : Nat → Option CFun} {I : Inj} {M : Mem} {ρS ρK ρM : Ren}
theorem sorts_of (LM : Go.Proofs.SlLaysM.n6 P ρM) (he : ρS.f 9 = ρM.f 6) (m : Nat) : Go.Proofs.AnyZ.SortsIn P ρS Fence.wide m := by
  unfold Go.Proofs.AnyZ.SortsIn
  rw [he]
  exact ⟨fun blk off cap ss W hH hblk hsz => callsIn_wide.2 (Go.Proofs.AnyM.slices_Sort_string LM blk off cap ss W hH hblk hsz), fun p cap W => callsIn_wide.2 (Go.Proofs.AnyM.slices_Sort_string_none LM p cap W)⟩
def cSo (gk : Nat) : CFun := ⟨[(.t 1, none)], .reg 1 [(0, { dst := some 1, guard := none, op := .sorted true gk (.t 0) })], false, false, false, true⟩
theorem ext_below {w' : World} (hw : ∀ b, M.fz b ≤ (cellsOf M.w b).length) (hlo : M.lo ≤ M.w.heap.size) (hb : RowKit.Below M.w.heap.size M.w w') : Ext M ⟨w', M.fz, M.lo⟩ ∧ (∀ b, b < M.w.heap.size → Same M ⟨w', M.fz, M.lo⟩ b) ∧ (∀ b, M.w.heap.size ≤ b → M.fz b = 0) ∧ (∀ b, M.fz b ≤ (cellsOf w' b).length) := by
  have hz : ∀ b, M.w.heap.size ≤ b → M.fz b = 0 := fun b hb' => by
    have := hw b
    rw [cellsOf_none hb'] at this
    simpa using this
  have hc : ∀ b, b < M.w.heap.size → cellsOf w' b = cellsOf M.w b := fun b hb' => by unfold cellsOf; rw [hb.block b hb']
  refine ⟨⟨rfl, hb.os, hb.tape, hb.output, hb.size, fun b h1 => hb.block b (by omega), fun _ => Nat.le_refl _, fun _ _ => rfl, fun b => ?_, fun b o h1 _ => ?_⟩, fun b h1 => ⟨hb.block b h1, rfl⟩, hz, fun b => ?_⟩
  · rcases Nat.lt_or_ge b M.w.heap.size with h1 | h1
    · rw [show cellsOf (⟨w', M.fz, M.lo⟩ : Mem).w b = cellsOf M.w b from hc b h1]
    · rw [hz b h1]; simp
  · have h2 := (Array.getElem?_eq_some_iff.1 h1).1
    exact (hb.block b h2).trans h1
  · rcases Nat.lt_or_ge b M.w.heap.size with h1 | h1
    · rw [hc b h1]; exact hw b
    · rw [hz b h1]; exact Nat.zero_le _
theorem row_str {w : World} {fz : Nat → Nat} : ∀ {l : List D} {cs : List Value}, (∀ x ∈ l, ∃ b : ByteArray, x = .s b ∧ b.size < 65536) → cs.take l.length = l.map (fun x => encStr (bsOf x)) → RRow w fz 1 l cs
  | [], cs, _, _ => by simp [RRow]
  | x :: l, cs, hk, h => by
    obtain ⟨b, rfl, _⟩ := hk x (by simp)
    cases cs with
    | nil => simp at h
    | cons c cs =>
      simp only [List.length_cons, List.take_succ_cons, List.map_cons, List.cons.injEq] at h
      obtain ⟨rfl, h2⟩ := h
      refine ⟨by simp, ?_, ?_⟩
      · simp [RDc, encStr, bsOf]
      · simpa using row_str (fun y hy => hk y (List.mem_cons_of_mem _ hy)) h2
theorem spec_so {k : Nat} (LS : Go.Proofs.SlLaysZ.n6 P ρS) (LK : Go.Proofs.SlLaysZ.n10 P ρK) (hs : ∀ m, Go.Proofs.AnyZ.SortsIn P ρS Fence.wide m) {fn : Func} (hf : P.funcs[ρS.f 6]? = some fn) (hnm : (fn.name == "runtime.NumGoroutine") = false) (hbd : fn.body.isSome = true)
    (e9 : ∀ args w, (callFunc (ρS.f 9) args).run P w = .ok (.enter (ρS.f 9) args) w) (eK : ∀ args w, (callFunc (ρK.f 10) args).run P w = .ok (.enter (ρK.f 10) args) w) : RunOK P G F k (ρS.f 6) (cSo (ρK.f 10)) := by
  refine ⟨⟨fn, hf, hnm, hbd⟩, fun args h n s l har hev hl I M vs hG hH hfr hA => ?_⟩
  have hlen : args.length = 1 := by
    rcases har with har | har
    · cases har
    · simpa [arOK, cSo] using har
  match args, hlen with
  | [x], _ =>
  obtain ⟨X, r1, rfl, rx, hA⟩ := hA
  simp only [Args] at hA
  subst hA
  have hnb : ev F k (cSo (ρK.f 10)).body ⟨initE 0 [x] .lf, h, n⟩ ≠ .bad := by rcases hev with e | e <;> rw [e] <;> simp
  obtain ⟨s1, h1, h2⟩ := reg_inv hnb
  have hs1 : s = s1 := by
    have h3 : ev F k (cSo (ρK.f 10)).body ⟨initE 0 [x] .lf, h, n⟩ = .nor s1 := h2
    rw [h3] at hev
    rcases hev with e | e <;> cases e
    rfl
  subst hs1
  obtain ⟨v1, h', n', d1, _, h3⟩ := evOps_one h1
  simp only [evOps, Option.some.injEq] at h3
  obtain ⟨t1, rfl⟩ := doOp_ev d1 rfl
  have g0 : (Opd.t 0).ev (initE 0 [x] .lf) = x := by simp [Opd.ev, initE, T.get_set]
  simp only [evOp, g0] at t1
  have hl' : l = [v1] := by
    rw [← h3] at hl
    simp only [cSo, resVs, resV, Opd.ev, putE, T.gs, Option.getD_some, bif_none, Option.some.injEq] at hl
    exact hl.2.symm
  subst hl'
  have hsn : s.n = n + 1 := by rw [← h3]
  have hsh : s.h = h' := by rw [← h3]
  split at t1
  case h_2 => cases t1
  rename_i g' a hl1 hl2
  cases hc : (g' == ρK.f 10 && (h.get (n + 0)).isNone) with
  | false => rw [hc] at t1; cases t1
  | true =>
  rw [hc] at t1
  simp only [cond_true] at t1
  simp only [Bool.and_eq_true, beq_iff_eq, Option.isNone_iff_eq_none, Nat.add_zero] at hc
  obtain ⟨rfl, hfree⟩ := hc
  split at t1
  case h_2 => cases t1
  rename_i b hga
  split at t1
  case h_2 => cases t1
  rename_i ks vs hgb
  cases hok : (strsOk true (sortD ks) && Nat.blt ks.length 65536) with
  | false => rw [hok] at t1; cases t1
  | true =>
  rw [hok] at t1
  simp only [cond_true] at t1
  simp only [Bool.and_eq_true, Nat.blt_eq] at hok
  obtain ⟨ho, hkl⟩ := hok
  -- the program's values
  have rc := rx.cellOf rfl
  simp only [RVc] at rc
  obtain ⟨fa, fb, e1, e2, e3⟩ := rc
  simp only [List.cons.injEq, and_true] at e1
  subst e1
  simp only [RVl] at e2 e3
  obtain ⟨pv, pr, e4, e5, e6⟩ := e3
  rcases e5 with e5 | ⟨e5, qa, hqa, e7⟩
  · cases e5
  have hpv : pv = .pointer (some ⟨qa.b, qa.o + 0, none⟩) := by
    cases pv with
    | agg cs => simp [agV, isAgg] at e5
    | pointer p => simpa [Value.cells] using e7
    | _ => simp [Value.cells] at e7
  subst hpv
  obtain ⟨_, _, ra⟩ := hH.ob a _ qa hga hqa
  simp only [RO, RVs] at ra
  obtain ⟨c, el, hcell, ho0, ⟨mv, mr, e8, _, hm, e9'⟩, _⟩ := ra
  simp only [RVc] at hm
  obtain ⟨qb, hqb, hm⟩ := hm
  simp only [List.cons.injEq, and_true] at hm
  subst hm
  obtain ⟨es, hes⟩ := hH.map hgb hqb
  obtain ⟨D0, hown, hperm, hsize⟩ := owns_of LK.t26 hes hkl ho
  have hfa : fa = #[] := Array.toList_eq_nil_iff.1 e2
  have hfb : fb = #[.pointer (some ⟨qa.b, 0, none⟩)] := by
    rw [← Array.toArray_toList (xs := fb), e4, e6, ho0]
  subst hfa hfb
  have hcl : M.w.cell? ⟨qa.b, 0, none⟩ = some (.map (some qb.b)) := by
    rw [cell_eq, cellsOf_at hcell, e8]
    rfl
  have hlt : qa.b < M.w.heap.size := (Array.getElem?_eq_some_iff.1 hcell).1
  have hseq := Go.Proofs.AnyZ.keys_gives (ρ := ρK) LK Fence.wide 2 trivial rfl (by omega) qa.b qb.b ks.length D0 M.w hlt hcl hown
  have h16 : 65536 ≤ maxLen := by decide
  have cS := Go.Proofs.AnyZ.sorted_in LS Fence.wide 5 trivial trivial trivial trivial rfl (by omega) (hs _) e9 (ρK.f 10) #[.pointer (some ⟨qa.b, 0, none⟩)] trivial eK _ _ (by rw [hsize]; omega) (by rw [hsize]; omega) M.w hseq
  refine (callsIn_wide (n := 5)).1 (cS.mono ?_)
  rintro e w' ⟨v, ss, rfl, hS, hrow, hnil, hb⟩
  have hsort := sorted_eq ho (hS.trans hperm)
  have hssl : ss.length = ks.length := by
    have := (hS.trans hperm).length_eq
    simpa using this
  obtain ⟨hx, hsame, hz, hwf⟩ := ext_below hH.wf hH.lo hb
  have hfn : I n = none := hfr n (Nat.le_refl _)
  have hold : ∀ y ob p, h.get y = some ob → I y = some p → Same M ⟨w', M.fz, M.lo⟩ p.b := fun y ob p hy hp => hsame _ (hH.ob y ob p hy hp).2.1
  split at t1
  · -- no key
    simp only [Option.some.injEq, Prod.mk.injEq] at t1
    obtain ⟨rfl, rfl⟩ := t1
    have hss : ss = [] := List.eq_nil_of_length_eq_zero (by simpa using hssl)
    have hv := hnil.2 hss
    subst hv
    refine ⟨[.slice none 0 0], ⟨w', M.fz, M.lo⟩, I, rfl, rfl, hx, Le.refl I, fun x hx => .inl hx, by omega, by rw [hsh]; exact hH.keep hx hold hwf, ?_⟩
    simp only [Outs]
    exact ⟨_, _, rfl, RV1.of rfl (by simp [RVc]), rfl⟩
  · -- keys
    rename_i hne
    simp only [Option.some.injEq, Prod.mk.injEq, Nat.add_zero] at t1
    obtain ⟨rfl, rfl⟩ := t1
    have hpos : ks.length ≠ 0 := fun e => hne (List.eq_nil_of_length_eq_zero e)
    rcases hrow.2 with ⟨_, h0⟩ | ⟨gb, cap, cur, rfl, r0, r1, r2, r3, r4, r5⟩
    · omega
    rw [hsort, Nat.mul_one, hssl] at r5
    have hsl : (sortD ks).length = ks.length := (sortD_perm ks).length_eq
    have hcap : cap ≤ 9223372036854775807 := by
      have : maxLen ≤ 9223372036854775807 := by decide
      omega
    have hro : RO (I.set n ⟨gb, 0, cap, 1⟩) ⟨w', M.fz, M.lo⟩ ⟨gb, 0, cap, 1⟩ (.row 1 (sortD ks) false) := by
      simp only [RO]
      refine ⟨trivial, Nat.one_pos, cur, _, r1, by simp [r4], by rw [hsl, ← hssl]; exact r2, row_str (strsOk_spec ho).1 (by rw [hsl, List.drop_zero, r5, List.map_map]; rfl), by rw [hz gb r0]; exact Nat.zero_le _⟩
    refine ⟨[.slice (some ⟨gb, 0, none⟩) ss.length cap], ⟨w', M.fz, M.lo⟩, I.set n ⟨gb, 0, cap, 1⟩, rfl, rfl, hx, Inj.set_le _ hfn, fun y hy => ?_, by omega, ?_, ?_⟩
    · by_cases hyn : y = n
      · exact .inr (by omega)
      · exact .inl (by simpa [Inj.set, hyn] using hy)
    · rw [hsh]
      refine hH.add hx hfn hold hwf (by show M.lo ≤ gb; have := hH.lo; omega) (Array.getElem?_eq_some_iff.1 r1).1 hro (fun y ob p hy hp e => ?_) hcap
      have := (hH.ob y ob p hy hp).2.1
      have e' : p.b = gb := e
      omega
    · simp only [Outs]
      refine ⟨_, _, rfl, RV1.of rfl ?_, rfl⟩
      simp only [RVc]
      exact ⟨_, _, Inj.set_same, by rw [hssl]; rfl, by rw [Nat.zero_add, ← hssl]; exact r2, .inr rfl⟩
end
end Tm
