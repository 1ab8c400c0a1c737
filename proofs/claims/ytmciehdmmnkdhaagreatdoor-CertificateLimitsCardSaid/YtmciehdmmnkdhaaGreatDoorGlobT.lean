/- What the rows' listed variables give the machine: the two lists of reserved words, each behind its own pointer. No statement of the seat is proved here. -/
import Derived.Test.YtmciehdmmnkdhaaGreatDoorTmH
import Derived.Test.YtmciehdmmnkdhaaGreatDoorRows
import Derived.FnData
import Derived.Carry
import Derived.ChangeSame
import Derived.OpenShut
import Derived.Deep.Strs
import Derived.KernelRfl
namespace Tm
open Go Go.Proofs Go.Proofs.YtmciehdmmnkdhaaGreatDoor
theorem row_of {w : World} {fz : Nat → Nat} {S : Nat → ByteArray} : ∀ {n k : Nat} {cs : List Value}, (∀ i, i < n → cs[i]? = some (.string (S (k + i)))) → RRow w fz 1 ((List.range n).map fun i => .s (S (k + i))) cs := by
  intro n
  induction n with
  | zero => intro k cs _; simp [RRow]
  | succ n ih =>
    intro k cs h
    rw [List.range_succ_eq_map, List.map_cons, List.map_map]
    have h0 := h 0 (by omega)
    cases cs with
    | nil => simp at h0
    | cons c cs =>
      simp only [List.getElem?_cons_zero, Option.some.injEq, Nat.add_zero] at h0
      subst h0
      refine ⟨by simp, by simp [RDc], ?_⟩
      have := ih (k := k + 1) (cs := cs) fun i hi => by
        have := h (i + 1) (by omega)
        rw [List.getElem?_cons_succ] at this
        rw [this, show k + (i + 1) = k + 1 + i by omega]
      simpa [Function.comp_def, Nat.add_assoc, Nat.add_comm 1] using this
variable {P : Program}
/-- A listed slice of strings, behind the pointer of its variable. -/
theorem laid_pe {W : World} {nm : String} {g : Nat} {t e : TypeId} {cs : Array Value} {fuel : Nat} {L : List (List UInt8)} {sp : List (DataW Unit)} {ps : List MemPlace}
    (hn : P.globalNamed nm = some g) (ht : P.underlying t = some (.slice e)) (he : P.underlying e = some .string) (hc : P.cellsOf e = 1)
    (hv : W.var? P nm = some cs) (h : DataW.trod (fun _ => ()) P W 0 (fun _ => true) false fuel t cs.toList = some (.slice (L.map fun l => .lit (.string l)) sp, ps)) (hL : 0 < L.length) (I : Inj) :
    RV1 I (oldMem W) (.pe [.d (.sl (L.map fun l => .s ⟨l.toArray⟩))] 0) (.pointer (some ⟨g, 0, none⟩)) := by
  rcases Go.Deep.open_strs ht he hc h with ⟨_, hd⟩ | ⟨a, len, cap, m, Sx, hcs, _, hl, hm, hmm, hd, hcell⟩
  · simp at hd
  · simp only [Prod.mk.injEq, DataW.slice.injEq] at hd
    have hlen : L.length = len := by simpa using congrArg List.length hd.1.1
    have hm' : m = cap := hmm
    obtain rfl : cs = #[.slice (some a) len cap] := by cases cs; simp_all
    have hv0 : W.cell? ⟨g, 0, none⟩ = some (.slice (some a) len cap) := by simpa using World.var?_cell hn hv 0
    obtain ⟨b, off, spot⟩ := a
    obtain rfl : spot = none := by simpa [Addr.add] using World.cell?_spot (hcell 0 (by omega)).1
    have hc0 : ∀ i, i < len → (cellsOf W b)[off + i]? = some (.string (Sx i)) := fun i hi => by
      rw [← cell_eq]
      have := (hcell i (by omega)).1
      simp only [Addr.add] at this
      split at this
      · rename_i e; subst e; simpa using this
      · simpa using this
    have hg0 : (cellsOf W g)[0]? = some (.slice (some ⟨b, off, none⟩) len cap) := by rw [← cell_eq]; exact hv0
    have hglt : g < W.heap.size := by
      rcases Nat.lt_or_ge g W.heap.size with hlt | hge
      · exact hlt
      · rw [cellsOf_none hge] at hg0; simp at hg0
    have hgl : 0 < (cellsOf W g).length := (List.getElem?_eq_some_iff.1 hg0).1
    have hfl : off + len ≤ (cellsOf W b).length := by
      have := (List.getElem?_eq_some_iff.1 (hc0 (len - 1) (by omega))).1
      omega
    have hLs : L.map (fun l => D.s ⟨l.toArray⟩) = (List.range len).map fun i => D.s (Sx i) := by
      have h1 := congrArg (List.map fun x : DataW Unit => match x with | .lit (.string l) => D.s ⟨l.toArray⟩ | _ => D.nif) hd.1.1
      simpa [Function.comp_def] using h1
    right
    refine ⟨rfl, g, 0, rfl, .inl hglt, by show 0 + 1 ≤ (cellsOf W g).length; omega, ?_, by simp [nfs, nf]⟩
    have htk : ((cellsOf W g).drop 0).take 1 = [.slice (some ⟨b, off, none⟩) len cap] := by
      rw [List.drop_zero]
      cases hcg : cellsOf W g with
      | nil => rw [hcg] at hgl; simp at hgl
      | cons x r => rw [hcg] at hg0; simp at hg0; simp [hg0]
    show RVs I (oldMem W) [.d (.sl _)] (((cellsOf W g).drop 0).take 1)
    rw [htk]
    refine ⟨_, _, rfl, rfl, ?_, rfl⟩
    show RDc W _ (.sl _) [_]
    rw [hLs]
    refine ⟨some ⟨b, off, none⟩, cap, by simp, by simpa using hl, fun h0 => ?_, fun _ => ⟨b, off, 1, rfl, Nat.one_pos, by simpa [oldMem] using hfl, ?_⟩⟩
    · have := congrArg List.length h0
      simp at this
      omega
    · have := row_of (w := W) (fz := (oldMem W).fz) (S := Sx) (n := len) (k := 0) (cs := (cellsOf W b).drop off) fun i hi => by
        rw [List.getElem?_drop, Nat.zero_add]
        exact hc0 i hi
      simpa using this
/-- The first listed variable gone, the rest. -/
theorem laid_tail {W : World} {x : String × DataW Unit} {r : List (String × DataW Unit)} {ps : List MemPlace} (h : DataW.LaidVars P W (x :: r) ps) : ∃ qs, DataW.LaidVars P W r qs := by
  obtain ⟨nm, d⟩ := x
  obtain ⟨g', t, cs, fuel, p, q, h1, h2, h3, h4, h5, _⟩ := h
  exact ⟨q, h5⟩
theorem laid_head {W : World} {nm : String} {g : Nat} {tS tE : TypeId} {L : List (List UInt8)} {sp : List (DataW Unit)} {r : List (String × DataW Unit)} {ps : List MemPlace}
    (hn : P.globalNamed nm = some g) (ht : (P.globals[g]?).map (·.type) = some tS) (hu : P.underlying tS = some (.slice tE)) (he : P.underlying tE = some .string) (hc : P.cellsOf tE = 1) (hL : 0 < L.length)
    (h : DataW.LaidVars P W ((nm, .slice (L.map fun l => .lit (.string l)) sp) :: r) ps) (I : Inj) : RV1 I (oldMem W) (.pe [.d (.sl (L.map fun l => .s ⟨l.toArray⟩))] 0) (.pointer (some ⟨g, 0, none⟩)) := by
  obtain ⟨g', t, cs, fuel, p, q, h1, h2, h3, h4, h5, _⟩ := h
  obtain rfl : g = g' := Option.some.inj (hn.symm.trans h1)
  obtain rfl : tS = t := Option.some.inj (ht.symm.trans h2)
  exact laid_pe hn hu he hc h3 h4 hL I
def resW : List (List UInt8) := [[65, 110, 121], [78, 101, 118, 101, 114], [116, 117, 112, 108, 101], [117, 110, 105, 111, 110], [101, 120, 105, 115, 116, 115]]
/-- THE MACHINE's GLOBALS: both lists of reserved words. -/
theorem glob_ok {W : World} {g0 g1 : Nat} {a1 a2 a3 a4 a5 : String × DataW Unit} {r : List (String × DataW Unit)} {ps : List MemPlace} {G : Nat → Option AV}
    (n1 : Tryz.prog.globalNamed "telpher/typeterm.reserved" = some g1) (n0 : Tryz.prog.globalNamed "telpher/hierarchy.reserved" = some g0)
    (t1 : (Tryz.prog.globals[g1]?).map (·.type) = some 123) (t0 : (Tryz.prog.globals[g0]?).map (·.type) = some 123)
    (hG : ∀ g av, G g = some av → (g = g0 ∨ g = g1) ∧ av = .pe [.d (.sl (resW.map fun l => .s ⟨l.toArray⟩))] 0)
    (h : DataW.LaidVars Tryz.prog W (a1 :: a2 :: a3 :: a4 :: a5 :: ("telpher/typeterm.reserved", Rows.laid_telpher_typeterm_reserved) :: ("telpher/hierarchy.reserved", Rows.laid_telpher_hierarchy_reserved) :: r) ps) : GOk G (oldMem W) := by
  obtain ⟨_, h⟩ := laid_tail h
  obtain ⟨_, h⟩ := laid_tail h
  obtain ⟨_, h⟩ := laid_tail h
  obtain ⟨_, h⟩ := laid_tail h
  obtain ⟨_, h⟩ := laid_tail h
  have e1 := laid_head (L := resW) (sp := []) n1 t1 Tryz.underlying123 Tryz.underlying9 (by kernel_rfl) (by decide) h
  obtain ⟨_, h⟩ := laid_tail h
  have e0 := laid_head (L := resW) (sp := []) n0 t0 Tryz.underlying123 Tryz.underlying9 (by kernel_rfl) (by decide) h
  intro g av hg
  have hx := hG g av hg
  rw [hx.2]
  refine ⟨by simp [nf, nfs], fun I => ?_⟩
  rcases hx.1 with e | e <;> rw [e]
  · exact e0 I
  · exact e1 I
end Tm
namespace Go.Proofs.YtmciehdmmnkdhaaGreatDoor
open Go.RowKit Go.WideShapes Go.ChangeShapes

theorem laidOut : laidOutB Tryz.prog = true := by kernel_rfl

section
variable {H : Type} {enc : TypeId × Value → H} {P : Program}
theorem trodAll_below (hl : laidOutB P = true) {W W' : World} (hb : Below W.heap.size W W') : ∀ (ts : List TypeId) (vs : List Value) (ds : List (DataW H)) (ps : List MemPlace),
    (ts.all fun t => P.readableRec t && decide (t < P.types.size)) = true → DataW.TrodAll enc P W 0 (fun _ => true) true ts vs ds ps → (∀ x ∈ ps, x.block < W.heap.size) →
    DataW.TrodAll enc P W' 0 (fun b => decide (b < W.heap.size)) true ts vs ds ps := by
  intro ts
  induction ts with
  | nil =>
    intro vs ds ps _ h _
    obtain ⟨rfl, rfl, rfl⟩ := trodAll_nil h
    exact trodAll_mk0
  | cons t ts ih =>
    intro vs ds ps hr h hlt
    obtain ⟨v, vs', d, ds', p, q, rfl, rfl, rfl, h0, h1⟩ := trodAll_cons h
    simp only [List.all_cons, Bool.and_eq_true, decide_eq_true_eq] at hr
    exact trodAll_cons_mk (Below.trod hl hr.1.1 hr.1.2 h0 hb fun x hx => hlt x (List.mem_append_left _ hx)) (ih vs' ds' q hr.2 h1 fun x hx => hlt x (List.mem_append_right _ hx))

/-- A LAW's LAST STEP: it answered true and nothing that was there has turned. -/
theorem law_post {f : Func} {s : ChangeSpec} {fresh handsOn : Bool} {W W' : World} {args : Array Value} {ds gs : List (DataW H)} {before : List MemPlace} {tb : TypeId}
    (hl : laidOutB P = true) (hv : s.vars = []) (hr : (f.params.toList.all fun t => P.readableRec t && decide (t < P.types.size)) = true) (hres : f.resultTypes = #[tb]) (htb : P.underlying tb = some .bool)
    (hW : DataW.Whole enc P f.params.toList s.vars false W args.toList ds gs before)
    (hs : s.fn H ds = { results := [.lit (.bool true)], args := ds })
    (hb : Below W.heap.size W W') : s.post enc P f false fresh handsOn false W args (.bool true) W' := by
  have hlt : ∀ p ∈ before, p.block < W.heap.size := fun p hp => hW.lt p hp
  have hW' := hW
  obtain ⟨p, q, hA, hV, rfl, _, _⟩ := hW
  rw [hv] at hV
  obtain ⟨rfl, rfl⟩ := trodVars_none hV
  simp only [List.append_nil] at hlt hW'
  refine ⟨ds, [], p, [], p, [], hW', ?_, ?_, ?_, hb.frame _, fun h => by cases h⟩
  · rw [List.append_nil, hs, hres]
    exact trodAll_cons_mk (shut_bool htb _) trodAll_mk0
  · rw [List.append_nil, hs]
    exact trodAll_below hl hb _ _ _ _ hr hA hlt
  · rw [List.append_nil, hs, hv]
    exact rfl

end
end Go.Proofs.YtmciehdmmnkdhaaGreatDoor
