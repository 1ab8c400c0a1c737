/- Plain: what a row's premises give (an integer slice; a listed slice of strings) and what a law's answer gives back.
  What the rows' listed variables give; the witness's world. -/
import Derived.Test.YtdjldmpfginkdaaGreatDoorGInts
import Derived.Carry
import Derived.OpenShut
import Derived.ChangeSame
import Derived.Deep.Strs
import Derived.Test.YtdjldmpfginkdaaGreatDoorRows
import Derived.Test.YtdjldmpfginkdaaGreatDoorValid
namespace Go.Proofs.YtdjldmpfginkdaaGreatDoor
open Go.RowKit Go.WideShapes Go.ChangeShapes Go.ChangeAt

theorem laidOut : laidOutB Tryz.prog = true := by kernel_rfl

theorem inI_of_wf {x : Int} (h : (Lit.int .i64 x).wf = true) : inI x := bounds_i64 h
section
variable {H : Type} {enc : TypeId × Value → H} {P : Program}
theorem trodAll_below (hl : laidOutB P = true) {W W' : World} (hb : Below W.heap.size W W') : ∀ (ts : List TypeId) (vs : List Value) (ds : List (DataW H)) (ps : List MemPlace),
    (ts.all fun t => P.readableRec t && decide (t < P.types.size)) = true → DataW.TrodAll enc P W 0 (fun _ => true) true ts vs ds ps → (∀ x ∈ ps, x.block < W.heap.size) →
    DataW.TrodAll enc P W' 0 (fun b => decide (b < W.heap.size)) true ts vs ds ps := by
  intro ts
  induction ts with
  | nil =>
    intro vs ds ps _ h _
    obtain ⟨rfl, rfl, rfl⟩ := trodAll_nil h
    exact trodAll_mk0
  | cons t ts ih =>
    intro vs ds ps hr h hlt
    obtain ⟨v, vs', d, ds', p, q, rfl, rfl, rfl, h0, h1⟩ := trodAll_cons h
    simp only [List.all_cons, Bool.and_eq_true, decide_eq_true_eq] at hr
    exact trodAll_cons_mk (Below.trod hl hr.1.1 hr.1.2 h0 hb fun x hx => hlt x (List.mem_append_left _ hx)) (ih vs' ds' q hr.2 h1 fun x hx => hlt x (List.mem_append_right _ hx))

/-- A LAW's LAST STEP: it answered true and nothing that was there has turned. -/
theorem law_post {f : Func} {s : ChangeSpec} {fresh handsOn : Bool} {W W' : World} {args : Array Value} {ds gs : List (DataW H)} {before : List MemPlace} {tb : TypeId}
    (hl : laidOutB P = true) (hv : s.vars = []) (hr : (f.params.toList.all fun t => P.readableRec t && decide (t < P.types.size)) = true) (hres : f.resultTypes = #[tb]) (htb : P.underlying tb = some .bool)
    (hW : DataW.Whole enc P f.params.toList s.vars false W args.toList ds gs before)
    (hs : s.fn H ds = { results := [.lit (.bool true)], args := ds })
    (hb : Below W.heap.size W W') : s.post enc P f false fresh handsOn false W args (.bool true) W' := by
  have hlt : ∀ p ∈ before, p.block < W.heap.size := fun p hp => hW.lt p hp
  have hW' := hW
  obtain ⟨p, q, hA, hV, rfl, _, _⟩ := hW
  rw [hv] at hV
  obtain ⟨rfl, rfl⟩ := trodVars_none hV
  simp only [List.append_nil] at hlt hW'
  refine ⟨ds, [], p, [], p, [], hW', ?_, ?_, ?_, hb.frame _, fun h => by cases h⟩
  · rw [List.append_nil, hs, hres]
    exact trodAll_cons_mk (shut_bool htb _) trodAll_mk0
  · rw [List.append_nil, hs]
    exact trodAll_below hl hb _ _ _ _ hr hA hlt
  · rw [List.append_nil, hs, hv]
    exact rfl

/-- AN ARGUMENT OF TYPE []int. -/
theorem arg_ints {W : World} {base : Nat} {t e : TypeId} {v : Value} {d : DataW H} {ps : List MemPlace} (ht : P.underlying t = some (.slice e)) (he : P.underlying e = some (.int .i64)) (hc : P.cellsOf e = 1) (h8 : P.bytesOf e = 8)
    (hval : Value.okWide P W .any base t v) (h : DataW.Trod enc P W 0 (fun _ => true) true t v d ps) (hw : (d.weights P t).all (· ≤ reachBytes) = true) :
    ∃ xs : List Int, IsInts W W.heap.size xs v ∧ (∀ x ∈ xs, inI x) ∧ xs.length ≤ 2 ^ 47 := by
  obtain ⟨fuel, h⟩ := h
  have hna : ∀ cs, v ≠ .agg cs := by
    rintro cs rfl
    unfold Value.okWide at hval
    rw [ht] at hval
    unfold Cell.okWide Cell.ok at hval
    simp [ht] at hval
  rcases open_ints ht he hc h with ⟨hv, hd⟩ | ⟨a, len, cap, zs, hv, _, hl, hm, hz, hd, hcell, hwf⟩
  · obtain rfl : v = .slice none 0 0 := by
      cases v <;> first | exact absurd rfl (hna _) | (simp [Value.cells] at hv; try simp [hv])
    exact ⟨[], ⟨none, 0, rfl, Nat.le_refl _, by decide, (fun _ => rfl), (fun a ha => by cases ha), Rd.nil⟩, (fun x hx => by cases hx), by decide⟩
  · obtain rfl : v = .slice (some a) len cap := by
      cases v <;> first | exact absurd rfl (hna _) | (simp [Value.cells] at hv; try simp [hv])
    have hz' : zs.length = cap := hz
    have hsp : a.spot = none := by
      have hv1 : Cell.okWide P W .any base t (.slice (some a) len cap) := by
        unfold Value.okWide at hval
        rw [ht] at hval
        exact hval
      unfold Cell.okWide Cell.ok at hv1
      rw [ht] at hv1
      exact hv1.2.2.2.1
    obtain ⟨b, off, spot⟩ := a
    obtain rfl : spot = none := hsp
    have hlen : (zs.take len).length = len := by rw [List.length_take]; omega
    have h47 : len ≤ 2 ^ 47 := by
      simp only [Prod.mk.injEq] at hd
      rw [hd.1] at hw
      unfold DataW.weights at hw
      simp only [ht, h8] at hw
      have hw1 := (List.all_eq_true.1 hw) _ (List.mem_cons_self)
      simp only [decide_eq_true_eq, lits, List.length_map, List.length_take, List.length_drop, reachBytes] at hw1
      omega
    refine ⟨zs.take len, ⟨some ⟨b, off, none⟩, cap, by rw [hlen], by rw [hlen]; exact hl, hm, fun h => (by cases h), fun a ha _ => by cases ha; rfl, ?_, ?_⟩, fun x hx => ?_, by rw [hlen]; exact h47⟩
    · simp [ints]
    · by_cases h0 : len = 0
      · left; rw [hlen]; exact h0
      · right
        have hc0 : W.cell? ⟨b, off, none⟩ = some (.int .i64 (zs.getD 0 0)) := by simpa [add_plain] using hcell 0 (by omega)
        refine ⟨b, off, rfl, ?_, ?_⟩
        · rcases Nat.lt_or_ge b W.heap.size with hlt | hge
          · exact hlt
          · simp [World.cell?, Array.getElem?_eq_none hge] at hc0
        · intro j u hj
          have hjl : j < (zs.take len).length := by
            have := (List.getElem?_eq_some_iff.1 hj).1
            simpa [ints] using this
          rw [hlen] at hjl
          have hcj := hcell j (by omega)
          rw [add_plain] at hcj
          rw [hcj]
          simp [ints, hjl] at hj
          obtain ⟨x, hx, rfl⟩ := hj
          simp [List.getD, hx]
    · have := hwf x (List.mem_of_mem_take hx)
      have h2 := inI_of_wf this
      exact h2

/-- A LISTED SLICE OF STRINGS. -/
theorem laid_strs {W : World} {nm : String} {g : Nat} {t e : TypeId} {cs : Array Value} {fuel : Nat} {L : List (List UInt8)} {sp : List (DataW Unit)} {ps : List MemPlace}
    (hn : P.globalNamed nm = some g) (ht : P.underlying t = some (.slice e)) (he : P.underlying e = some .string) (hc : P.cellsOf e = 1)
    (hv : W.var? P nm = some cs) (h : DataW.trod (fun _ => ()) P W 0 (fun _ => true) false fuel t cs.toList = some (.slice (L.map fun l => .lit (.string l)) sp, ps)) (hL : 0 < L.length) :
    g < W.heap.size ∧ ∃ v, W.cell? ⟨g, 0, none⟩ = some v ∧ IsStrs W W.heap.size (L.map fun l => ⟨l.toArray⟩) v := by
  rcases Go.Deep.open_strs ht he hc h with ⟨_, hd⟩ | ⟨a, len, cap, m, Sx, hcs, _, hl, hm, hmm, hd, hcell⟩
  · simp at hd
  · simp only [Prod.mk.injEq, DataW.slice.injEq] at hd
    have hlen : L.length = len := by simpa using congrArg List.length hd.1.1
    have hm' : m = cap := hmm
    obtain rfl : cs = #[.slice (some a) len cap] := by cases cs; simp_all
    have hv0 : W.cell? ⟨g, 0, none⟩ = some (.slice (some a) len cap) := by simpa using World.var?_cell hn hv 0
    obtain ⟨b, off, spot⟩ := a
    obtain rfl : spot = none := by simpa [Addr.add] using World.cell?_spot (hcell 0 (by omega)).1
    have blk : ∀ {b o : Nat} {v : Value}, W.cell? ⟨b, o, none⟩ = some v → b < W.heap.size := by
      intro b o v hc0
      rcases Nat.lt_or_ge b W.heap.size with hlt | hge
      · exact hlt
      · simp [World.cell?, Array.getElem?_eq_none hge] at hc0
    refine ⟨blk hv0, _, hv0, some ⟨b, off, none⟩, cap, by simp [hlen], by simp [hlen]; exact hl, hm, (fun h => by cases h), (fun a ha => by cases ha; rfl), by simp [strs], .inr ⟨b, off, rfl, ?_, ?_⟩⟩
    · have h0 := (hcell 0 (by omega)).1
      rw [add_plain] at h0
      exact blk h0
    · intro j u hj
      have hjl : j < L.length := by
        have := (List.getElem?_eq_some_iff.1 hj).1
        simpa [strs] using this
      have hcj := (hcell j (by omega)).1
      rw [add_plain] at hcj
      rw [hcj]
      have he := congrArg (fun l => l[j]?) hd.1.1
      have hjr : j < len := by omega
      simp [hjl, hjr] at he
      simp [strs, hjl] at hj
      rw [← hj, he]
end
end Go.Proofs.YtdjldmpfginkdaaGreatDoor
namespace Go.Proofs.YtdjldmpfginkdaaGreatDoor
open Go.RowKit Go.WideShapes Go.ChangeShapes Go.ChangeAt

theorem own : ownKnob Tryz.prog.godebug = none := by kernel_rfl
theorem gRes : Tryz.prog.globalNamed "telpher/typeterm.reserved" = some 1 := by kernel_rfl
theorem gResT : (Tryz.prog.globals[1]?).map (·.type) = some 121 := by kernel_rfl
theorem cellsStr : Tryz.prog.cellsOf 9 = 1 := by kernel_rfl
theorem cellsInt : Tryz.prog.cellsOf 3 = 1 := by kernel_rfl
theorem bytesInt : Tryz.prog.bytesOf 3 = 8 := by kernel_rfl

/-- The first listed variable, and the rest. -/
theorem laidVars_head {W : World} {nm : String} {g : Nat} {L : List (List UInt8)} {sp : List (DataW Unit)} {r : List (String × DataW Unit)} {ps : List MemPlace}
    (hn : Tryz.prog.globalNamed nm = some g) (ht : (Tryz.prog.globals[g]?).map (·.type) = some 121) (hL : 0 < L.length)
    (h : DataW.LaidVars Tryz.prog W ((nm, .slice (L.map fun l => .lit (.string l)) sp) :: r) ps) :
    (g < W.heap.size ∧ ∃ v, W.cell? ⟨g, 0, none⟩ = some v ∧ IsStrs W W.heap.size (L.map fun l => ⟨l.toArray⟩) v) ∧ ∃ qs, DataW.LaidVars Tryz.prog W r qs := by
  obtain ⟨g', t, cs, fuel, p, q, h1, h2, h3, h4, h5, _⟩ := h
  obtain rfl : g = g' := Option.some.inj (hn.symm.trans h1)
  obtain rfl : 121 = t := Option.some.inj (ht.symm.trans h2)
  exact ⟨laid_strs hn Tryz.underlying121 Tryz.underlying9 cellsStr h3 h4 hL, q, h5⟩

def resL : List (List UInt8) := [[65, 110, 121], [78, 101, 118, 101, 114], [116, 117, 112, 108, 101], [117, 110, 105, 111, 110], [101, 120, 105, 115, 116, 115]]
theorem res_kw : (resL.map fun l => (⟨l.toArray⟩ : ByteArray)) = kwStrs := by
  unfold kwStrs
  exact congrArg (List.map _) (by kernel_rfl)
theorem envR_head {W : World} {r : List (String × DataW Unit)} {ps : List MemPlace} (h : DataW.LaidVars Tryz.prog W (("telpher/typeterm.reserved", Rows.laid_telpher_typeterm_reserved) :: r) ps) :
    EnvR W W.heap.size ∧ ∃ qs, DataW.LaidVars Tryz.prog W r qs := by
  have := laidVars_head (L := resL) (sp := []) gRes gResT (by decide) h
  rw [res_kw] at this
  exact this
end Go.Proofs.YtdjldmpfginkdaaGreatDoor
