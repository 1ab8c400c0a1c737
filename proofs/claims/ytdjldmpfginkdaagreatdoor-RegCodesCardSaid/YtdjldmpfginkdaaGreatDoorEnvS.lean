/- What the rows' listed variables give: the table of shapes. -/
import Derived.Test.YtdjldmpfginkdaaGreatDoorRows
import Derived.Test.YtdjldmpfginkdaaGreatDoorGEnv
import Derived.Test.YtdjldmpfginkdaaGreatDoorValid
import Derived.Test.YtdjldmpfginkdaaGreatDoorGRegA
import Derived.Deep.Slices
namespace Go.Proofs.YtdjldmpfginkdaaGreatDoor
open Go.RowKit Go.WideShapes Go.ChangeShapes Go.ChangeAt

section
variable {H : Type} {enc : TypeId × Value → H} {P : Program} {w : World} {base : Nat} {spare : Nat → Bool} {held : Bool}
/-- A struct of Bools. -/
theorem bits_of {e : TypeId} {fs : Array Field} {n fuel : Nat} {cs : List Value} {L : List (DataW H)} {pl : List MemPlace} (he : P.underlying e = some (.struct fs)) (hn : fs.size = n)
    (hf : ∀ (i : Nat) (f : Field), fs[i]? = some f → f.offset = i ∧ P.underlying f.type = some .bool ∧ P.cellsOf f.type = 1) (hc : P.cellsOf e = n) (h : DataW.trod enc P w base spare held fuel e cs = some (.agg L, pl)) :
    ∀ i, i < n → ∃ b, cs[i]? = some (.bool b) ∧ L[i]? = some (.lit (.bool b)) := by
  obtain ⟨xs, k, _, hx, hl, hxl, hg⟩ := DataW.trod_struct he h
  simp only [Prod.mk.injEq, DataW.agg.injEq] at hx
  intro i hi
  have hif : fs[i]? = some fs[i] := Array.getElem?_eq_getElem (by omega)
  obtain ⟨ho, hb, hc1⟩ := hf i _ hif
  have h1 := hg i _ hif
  have hix : i < xs.length := by omega
  rw [ho, hc1, List.getElem?_eq_getElem hix] at h1
  obtain ⟨b, hcs, hxi⟩ := DataW.trod_bool hb h1
  refine ⟨b, ?_, ?_⟩
  · have hic : i < cs.length := by omega
    have h2 : (cs.drop i).take 1 = [cs[i]] := by
      rw [List.drop_eq_getElem_cons hic]
      rfl
    rw [h2] at hcs
    rw [List.getElem?_eq_getElem hic]
    exact congrArg some (List.cons.inj hcs).1
  · rw [hx.1, List.getElem?_map, List.getElem?_eq_getElem hix, hxi]
    rfl
end
def shpL : List (List Bool) := [[false, false, false, false, false, false, false, false], [true, false, false, false, false, false, false, true], [true, true, false, false, false, false, false, false], [true, true, false, false, false, false, false, false], [true, true, false, false, false, false, false, false], [true, true, true, true, false, false, false, false], [true, true, true, false, false, false, false, false], [true, true, false, false, false, false, false, false], [true, true, true, true, false, false, false, false], [true, false, false, false, false, true, true, false], [true, true, false, false, true, false, false, false], [false, true, true, false, true, false, false, false], [true, false, false, false, false, true, false, false], [true, true, false, true, false, false, false, false], [true, true, false, false, false, false, true, false], [true, false, false, false, true, true, false, false], [true, false, false, false, true, true, false, false], [false, false, false, true, false, false, false, false], [false, true, false, true, false, false, false, false], [false, false, false, false, false, false, false, false], [false, true, false, false, false, false, false, false], [false, true, false, false, false, false, false, false], [false, false, false, true, false, false, false, false], [false, false, false, false, false, false, false, false], [false, true, false, false, false, false, false, false], [false, false, false, true, false, false, false, false], [false, false, false, false, false, false, false, false], [true, false, false, true, false, true, false, false]]
theorem shpL_eq {H : Type} : (Rows.laid_telpher_regcode_shapes : DataW H) = .slice (shpL.map fun l => .agg (l.map fun b => .lit (.bool b))) [] := rfl
theorem shpL_at : ∀ j : Nat, j < 28 → shpL[j]? = some [oD j, oA j, oB j 0, oI j, oN j, oL j, oT j, oC j] := by decide
theorem gShp : Tryz.prog.globalNamed "telpher/regcode.shapes" = some 0 := by kernel_rfl
theorem gShpT : (Tryz.prog.globals[0]?).map (·.type) = some 87 := by kernel_rfl
theorem cellsShp : Tryz.prog.cellsOf 65 = 8 := by kernel_rfl
theorem cellsBool : Tryz.prog.cellsOf 4 = 1 := by kernel_rfl
theorem envS_head {W : World} {r : List (String × DataW Unit)} {ps : List MemPlace} (h : DataW.LaidVars Tryz.prog W (("telpher/regcode.shapes", Rows.laid_telpher_regcode_shapes) :: r) ps) :
    EnvS W W.heap.size ∧ ∃ qs, DataW.LaidVars Tryz.prog W r qs := by
  obtain ⟨g', t, cs, fuel, p, q, h1, h2, h3, h4, h5, _⟩ := h
  obtain rfl : 0 = g' := Option.some.inj (gShp.symm.trans h1)
  obtain rfl : 87 = t := Option.some.inj (gShpT.symm.trans h2)
  refine ⟨?_, q, h5⟩
  rw [shpL_eq] at h4
  rcases Go.Deep.open_slice Tryz.underlying87 h4 with ⟨_, hd⟩ | ⟨a, len, cap, m, n, D, Pl, hcs, _, hl, hm, hmm, hd, hel⟩
  · simp at hd
  simp only [Prod.mk.injEq, DataW.slice.injEq] at hd
  have hlen : len = 28 := by
    have := congrArg List.length hd.1.1
    simpa [shpL] using this.symm
  subst hlen
  obtain rfl : cs = #[.slice (some a) 28 cap] := by cases cs; simp_all
  have hv0 : W.cell? ⟨0, 0, none⟩ = some (.slice (some a) 28 cap) := by simpa using World.var?_cell gShp h3 0
  have blk : ∀ {b o : Nat} {v : Value}, W.cell? ⟨b, o, none⟩ = some v → b < W.heap.size := by
    intro b o v hc0
    rcases Nat.lt_or_ge b W.heap.size with hlt | hge
    · exact hlt
    · simp [World.cell?, Array.getElem?_eq_none hge] at hc0
  rw [cellsShp] at hel
  have hsp : a.spot = none := by
    obtain ⟨cs', hc1, hc2⟩ := hel 0 (by rw [hmm]; split <;> omega)
    obtain ⟨_, hlen', hcell⟩ := World.cells?_some hc1
    have h0 := hcell 0 (by decide)
    have hv : cs'[0]? = some (cs'[0]'(by rw [hlen']; decide)) := List.getElem?_eq_getElem _
    have h1 := World.cell?_spot (h0.trans hv)
    rw [Nat.zero_mul] at h1
    exact h1
  obtain ⟨ab, ao, asp⟩ := a
  obtain rfl : asp = none := hsp
  have key : ∀ j : Nat, j < 28 → ∀ i, i < 8 → W.cell? ((⟨ab, ao, none⟩ : Addr).add (j * 8 + i)) = ([oD j, oA j, oB j 0, oI j, oN j, oL j, oT j, oC j].map Value.bool)[i]? := by
    intro j hj i hi
    obtain ⟨cs', hc1, hc2⟩ := hel j (by rw [hmm]; split <;> omega)
    obtain ⟨_, hlen', hcell⟩ := World.cells?_some hc1
    have hD : D j = .agg ([oD j, oA j, oB j 0, oI j, oN j, oL j, oT j, oC j].map fun b => .lit (.bool b)) := by
      have := congrArg (fun l => l[j]?) hd.1.1
      simp only [List.getElem?_map, shpL_at j hj, List.getElem?_range hj, Option.map_some, Option.some.injEq] at this
      exact this.symm
    rw [hD] at hc2
    obtain ⟨b, hb1, hb2⟩ := bits_of (n := 8) Tryz.underlying65 rfl (by
      intro i f hf
      have hi8 : i < 8 := (Array.getElem?_eq_some_iff.1 hf).1
      match i, hi8, hf with
      | 0, _, hf | 1, _, hf | 2, _, hf | 3, _, hf | 4, _, hf | 5, _, hf | 6, _, hf | 7, _, hf =>
        obtain rfl := (Option.some.inj hf).symm
        exact ⟨rfl, Tryz.underlying4, cellsBool⟩) cellsShp hc2 i hi
    have hadd : ((⟨ab, ao, none⟩ : Addr).add (j * 8)).add i = (⟨ab, ao, none⟩ : Addr).add (j * 8 + i) := by rw [add_plain, add_plain, add_plain, Nat.add_assoc]
    rw [← hadd, hcell i hi, hb1]
    rw [List.getElem?_map] at hb2 ⊢
    cases hq : [oD j, oA j, oB j 0, oI j, oN j, oL j, oT j, oC j][i]? with
    | none => rw [hq] at hb2; cases hb2
    | some b' =>
      rw [hq] at hb2
      simp only [Option.map_some, Option.some.injEq, DataW.lit.injEq, Lit.bool.injEq] at hb2
      rw [hb2]
      rfl
  have h00 := key 0 (by decide) 0 (by decide)
  refine ⟨blk hv0, ab, ao, cap, hv0, ?_, fun j hj => ?_⟩
  · rw [add_plain] at h00
    exact blk h00
  · have hk : ∀ i, i < 8 → W.cell? ⟨ab, ao + j * 8 + i, none⟩ = ([oD j, oA j, oB j 0, oI j, oN j, oL j, oT j, oC j].map Value.bool)[i]? := fun i hi => by
      have := key j hj i hi
      rw [add_plain, ← Nat.add_assoc] at this
      exact this
    exact ⟨hk 0 (by decide), hk 1 (by decide), hk 2 (by decide), hk 3 (by decide), hk 4 (by decide), hk 5 (by decide), hk 6 (by decide), hk 7 (by decide)⟩
end Go.Proofs.YtdjldmpfginkdaaGreatDoor
