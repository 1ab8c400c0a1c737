/- What the rows' listed variables give; the witness's world. -/
import Derived.Test.YtdbflfakocaapaaDoorRows
import Derived.Test.YtdbflfakocaapaaDoorLaid
import Derived.Test.YtdbflfakocaapaaDoorValid
import Derived.Test.YtdbflfakocaapaaDoorAny
namespace Go.Proofs.YtdbflfakocaapaaDoor
open Go.RowKit Go.WideShapes Go.ChangeShapes Go.ChangeAt

theorem own : ownKnob Tryd.prog.godebug = none := by kernel_rfl
theorem gRes : Tryd.prog.globalNamed "telpher/typeterm.reserved" = some 2 := by kernel_rfl
theorem gAny : Tryd.prog.globalNamed "telpher/telmake.anyNames" = some 0 := by kernel_rfl
theorem gLeaf : Tryd.prog.globalNamed "telpher/telmake.leafNames" = some 1 := by kernel_rfl
theorem gResT : (Tryd.prog.globals[2]?).map (·.type) = some 44 := by kernel_rfl
theorem gAnyT : (Tryd.prog.globals[0]?).map (·.type) = some 44 := by kernel_rfl
theorem gLeafT : (Tryd.prog.globals[1]?).map (·.type) = some 44 := by kernel_rfl
theorem cellsStr : Tryd.prog.cellsOf 9 = 1 := by kernel_rfl
theorem cellsInt : Tryd.prog.cellsOf 3 = 1 := by kernel_rfl
theorem bytesInt : Tryd.prog.bytesOf 3 = 8 := by kernel_rfl

/-- The first listed variable, and the rest. -/
theorem laidVars_head {W : World} {nm : String} {g : Nat} {L : List (List UInt8)} {sp : List (DataW Unit)} {r : List (String × DataW Unit)} {ps : List MemPlace}
    (hn : Tryd.prog.globalNamed nm = some g) (ht : (Tryd.prog.globals[g]?).map (·.type) = some 44) (hL : 0 < L.length)
    (h : DataW.LaidVars Tryd.prog W ((nm, .slice (L.map fun l => .lit (.string l)) sp) :: r) ps) :
    (g < W.heap.size ∧ ∃ v, W.cell? ⟨g, 0, none⟩ = some v ∧ IsStrs W W.heap.size (L.map fun l => ⟨l.toArray⟩) v) ∧ ∃ qs, DataW.LaidVars Tryd.prog W r qs := by
  obtain ⟨g', t, cs, fuel, p, q, h1, h2, h3, h4, h5, _⟩ := h
  obtain rfl : g = g' := Option.some.inj (hn.symm.trans h1)
  obtain rfl : 44 = t := Option.some.inj (ht.symm.trans h2)
  exact ⟨laid_strs hn Tryd.underlying44 Tryd.underlying9 cellsStr h3 h4 hL, q, h5⟩

def resL : List (List UInt8) := [[65, 110, 121], [78, 101, 118, 101, 114], [116, 117, 112, 108, 101], [117, 110, 105, 111, 110], [101, 120, 105, 115, 116, 115]]
theorem res_kw : (resL.map fun l => (⟨l.toArray⟩ : ByteArray)) = kwStrs := by
  unfold kwStrs
  exact congrArg (List.map _) (by kernel_rfl)
theorem envR_head {W : World} {r : List (String × DataW Unit)} {ps : List MemPlace} (h : DataW.LaidVars Tryd.prog W (("telpher/typeterm.reserved", Rows.laid_telpher_typeterm_reserved) :: r) ps) :
    EnvR W W.heap.size ∧ ∃ qs, DataW.LaidVars Tryd.prog W r qs := by
  have := laidVars_head (L := resL) (sp := []) gRes gResT (by decide) h
  rw [res_kw] at this
  exact this
def anyL : List (List UInt8) := [[66, 111, 120], [73, 110, 116], [80, 97, 105, 114], [65], [120, 95, 49], [], [116, 117, 112, 108, 101], [65, 110, 121], [49, 120], [97, 45, 98], [97, 98, 99, 100, 101, 102, 103, 104, 105, 106, 107, 108, 109, 110, 111, 112, 113, 114, 115, 116, 117, 118, 119, 120, 121]]
theorem envA_head {W : World} {r : List (String × DataW Unit)} {ps : List MemPlace} (h : DataW.LaidVars Tryd.prog W (("telpher/telmake.anyNames", Rows.laid_telpher_telmake_anyNames) :: r) ps) :
    EnvN 0 11 W W.heap.size ∧ ∃ qs, DataW.LaidVars Tryd.prog W r qs := by
  obtain ⟨⟨h1, v, h2, h3⟩, h4⟩ := laidVars_head (L := anyL) (sp := []) gAny gAnyT (by decide) h
  exact ⟨⟨h1, v, _, h2, h3, by simp [anyL]⟩, h4⟩
def leafL : List (List UInt8) := [[73, 110, 116], [66, 111, 111, 108], [83, 116, 114, 105, 110, 103], [78, 105, 108]]
theorem envL_head {W : World} {r : List (String × DataW Unit)} {ps : List MemPlace} (h : DataW.LaidVars Tryd.prog W (("telpher/telmake.leafNames", Rows.laid_telpher_telmake_leafNames) :: r) ps) :
    (1 < W.heap.size ∧ ∃ v, W.cell? ⟨1, 0, none⟩ = some v ∧ IsStrs W W.heap.size (leafL.map fun l => ⟨l.toArray⟩) v) ∧ ∃ qs, DataW.LaidVars Tryd.prog W r qs :=
  laidVars_head (L := leafL) (sp := []) gLeaf gLeafT (by decide) h
end Go.Proofs.YtdbflfakocaapaaDoor
