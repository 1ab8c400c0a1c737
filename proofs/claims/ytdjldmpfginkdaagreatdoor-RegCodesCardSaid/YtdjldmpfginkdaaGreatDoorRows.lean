/-
  NARROWER THAN 'FOR EVERY INPUT', by the rows' own cells (each row's printed sentence says how): RegHeaders: laid · RegLive: laid · RegCodes: loops, laid.
  DERIVED. THE GIVEN ROWS OF THIS SEAT. 3 by the template 'for every input the law returns true; each argument reads behind the call as it read before'; 0 by the template 'total and deterministic' (their statements: YtdjldmpfginkdaaGreatDoorTotals.lean).
  GIVEN WITH THE SEED: the statements are not yours to turn. If you find one false, say at which input.
  Laid BY PROGRAM, IN A SANDBOX (cutbox-rows.mjs): the forced cells as the released guide's own fill.sh prints them over the translation 9453712e1794f98b… (all of the seat's roots in one cut). By AI agents, Wed Nov 11 2026. No macro, syntax, notation, axiom, sorry.
-/
import Derived.Test.YtdjldmpfginkdaaGreatDoorChecked
import GoSem.Claim
import GoSem.ClaimJoined
import GoSem.ClaimMapViews
import Derived.JoinedTies
import Derived.KernelRfl
namespace Go.Proofs.YtdjldmpfginkdaaGreatDoor
/- THE CELL 'sum', in the pinned program and in every row, IS THE sha256 OF THE DUMP (.gsa) THAT YtdjldmpfginkdaaGreatDoorProg.lean LOADS. Nothing in Lean hashes anything: it is a label: what it is worth is what the hold of that sum in a sandbox is worth. -/
noncomputable def Tryz.pinned : Pinned := { name := "ytdjldmpfginkdaagreatdoor", sum := "9453712e1794f98b3f6758b57f149f87aa553d33b94c90dd2530a50b13825b33", checked := Tryz.checked }
namespace Rows
def none {H : Type} : Left H := { results := [], args := [] }

/- WHAT THE LISTED PACKAGE-LEVEL VARIABLES READ AS WHEN THE CALL BEGINS. Each datum BY PROGRAM (the guide's laid-datum.mjs) off the statement by which the dump's own 'gosem.cut.vars' lays the variable. In a bare row this is a premise. The card (YtdjldmpfginkdaaGreatDoorCards.lean) ties it to the program's text. -/
def laid_telpher_typeterm_reserved {H : Type} : DataW H := .slice [.lit (.string [65, 110, 121]), .lit (.string [78, 101, 118, 101, 114]), .lit (.string [116, 117, 112, 108, 101]), .lit (.string [117, 110, 105, 111, 110]), .lit (.string [101, 120, 105, 115, 116, 115])] []
def laid_telpher_regcode_shapes {H : Type} : DataW H := .slice [.agg [.lit (.bool false), .lit (.bool false), .lit (.bool false), .lit (.bool false), .lit (.bool false), .lit (.bool false), .lit (.bool false), .lit (.bool false)], .agg [.lit (.bool true), .lit (.bool false), .lit (.bool false), .lit (.bool false), .lit (.bool false), .lit (.bool false), .lit (.bool false), .lit (.bool true)], .agg [.lit (.bool true), .lit (.bool true), .lit (.bool false), .lit (.bool false), .lit (.bool false), .lit (.bool false), .lit (.bool false), .lit (.bool false)], .agg [.lit (.bool true), .lit (.bool true), .lit (.bool false), .lit (.bool false), .lit (.bool false), .lit (.bool false), .lit (.bool false), .lit (.bool false)], .agg [.lit (.bool true), .lit (.bool true), .lit (.bool false), .lit (.bool false), .lit (.bool false), .lit (.bool false), .lit (.bool false), .lit (.bool false)], .agg [.lit (.bool true), .lit (.bool true), .lit (.bool true), .lit (.bool true), .lit (.bool false), .lit (.bool false), .lit (.bool false), .lit (.bool false)], .agg [.lit (.bool true), .lit (.bool true), .lit (.bool true), .lit (.bool false), .lit (.bool false), .lit (.bool false), .lit (.bool false), .lit (.bool false)], .agg [.lit (.bool true), .lit (.bool true), .lit (.bool false), .lit (.bool false), .lit (.bool false), .lit (.bool false), .lit (.bool false), .lit (.bool false)], .agg [.lit (.bool true), .lit (.bool true), .lit (.bool true), .lit (.bool true), .lit (.bool false), .lit (.bool false), .lit (.bool false), .lit (.bool false)], .agg [.lit (.bool true), .lit (.bool false), .lit (.bool false), .lit (.bool false), .lit (.bool false), .lit (.bool true), .lit (.bool true), .lit (.bool false)], .agg [.lit (.bool true), .lit (.bool true), .lit (.bool false), .lit (.bool false), .lit (.bool true), .lit (.bool false), .lit (.bool false), .lit (.bool false)], .agg [.lit (.bool false), .lit (.bool true), .lit (.bool true), .lit (.bool false), .lit (.bool true), .lit (.bool false), .lit (.bool false), .lit (.bool false)], .agg [.lit (.bool true), .lit (.bool false), .lit (.bool false), .lit (.bool false), .lit (.bool false), .lit (.bool true), .lit (.bool false), .lit (.bool false)], .agg [.lit (.bool true), .lit (.bool true), .lit (.bool false), .lit (.bool true), .lit (.bool false), .lit (.bool false), .lit (.bool false), .lit (.bool false)], .agg [.lit (.bool true), .lit (.bool true), .lit (.bool false), .lit (.bool false), .lit (.bool false), .lit (.bool false), .lit (.bool true), .lit (.bool false)], .agg [.lit (.bool true), .lit (.bool false), .lit (.bool false), .lit (.bool false), .lit (.bool true), .lit (.bool true), .lit (.bool false), .lit (.bool false)], .agg [.lit (.bool true), .lit (.bool false), .lit (.bool false), .lit (.bool false), .lit (.bool true), .lit (.bool true), .lit (.bool false), .lit (.bool false)], .agg [.lit (.bool false), .lit (.bool false), .lit (.bool false), .lit (.bool true), .lit (.bool false), .lit (.bool false), .lit (.bool false), .lit (.bool false)], .agg [.lit (.bool false), .lit (.bool true), .lit (.bool false), .lit (.bool true), .lit (.bool false), .lit (.bool false), .lit (.bool false), .lit (.bool false)], .agg [.lit (.bool false), .lit (.bool false), .lit (.bool false), .lit (.bool false), .lit (.bool false), .lit (.bool false), .lit (.bool false), .lit (.bool false)], .agg [.lit (.bool false), .lit (.bool true), .lit (.bool false), .lit (.bool false), .lit (.bool false), .lit (.bool false), .lit (.bool false), .lit (.bool false)], .agg [.lit (.bool false), .lit (.bool true), .lit (.bool false), .lit (.bool false), .lit (.bool false), .lit (.bool false), .lit (.bool false), .lit (.bool false)], .agg [.lit (.bool false), .lit (.bool false), .lit (.bool false), .lit (.bool true), .lit (.bool false), .lit (.bool false), .lit (.bool false), .lit (.bool false)], .agg [.lit (.bool false), .lit (.bool false), .lit (.bool false), .lit (.bool false), .lit (.bool false), .lit (.bool false), .lit (.bool false), .lit (.bool false)], .agg [.lit (.bool false), .lit (.bool true), .lit (.bool false), .lit (.bool false), .lit (.bool false), .lit (.bool false), .lit (.bool false), .lit (.bool false)], .agg [.lit (.bool false), .lit (.bool false), .lit (.bool false), .lit (.bool true), .lit (.bool false), .lit (.bool false), .lit (.bool false), .lit (.bool false)], .agg [.lit (.bool false), .lit (.bool false), .lit (.bool false), .lit (.bool false), .lit (.bool false), .lit (.bool false), .lit (.bool false), .lit (.bool false)], .agg [.lit (.bool true), .lit (.bool false), .lit (.bool false), .lit (.bool true), .lit (.bool false), .lit (.bool true), .lit (.bool false), .lit (.bool false)]] []

/-- 'tellaw27.RegHeaders': WHATEVER THE INPUT: true; the input reads as it did. -/
def regHeadersSpec : ChangeSpec := { name := "regHeaders", fn := fun _ => fun
  | [d1, d2, d3, d4] => { results := [.lit (.bool true)], args := [d1, d2, d3, d4] }
  | _ => none }
def regHeadersRow : OpenClaim := { program := "ytdjldmpfginkdaagreatdoor", sum := "9453712e1794f98b3f6758b57f149f87aa553d33b94c90dd2530a50b13825b33", func := "telpher/tellaw27.RegHeaders", spec := "regHeaders", inPlace := ["slices.overlaps[int]"], unfollowed := true, recurses := true, named := ["telpher/regcode.shapes", "telpher/typeterm.reserved"], apart := false, laid := [("telpher/typeterm.reserved", laid_telpher_typeterm_reserved), ("telpher/regcode.shapes", laid_telpher_regcode_shapes)] }
def RegHeadersSaid : Prop := regHeadersRow.holds Tryz.pinned (OpenSpec.ofChange regHeadersSpec)

/-- ITS FALSE NEIGHBOUR: 'it returns false'. Refute it at one input. -/
def regHeadersWrong : ChangeSpec := { name := "regHeaders", fn := fun _ => fun
  | [d1, d2, d3, d4] => { results := [.lit (.bool false)], args := [d1, d2, d3, d4] }
  | _ => none }
def RegHeadersWrongFalsely : Prop := regHeadersRow.holds Tryz.pinned (OpenSpec.ofChange regHeadersWrong)

/-- 'tellaw27.RegLive': WHATEVER THE INPUT: true; the input reads as it did. -/
def regLiveSpec : ChangeSpec := { name := "regLive", fn := fun _ => fun
  | [d] => { results := [.lit (.bool true)], args := [d] }
  | _ => none }
def regLiveRow : OpenClaim := { program := "ytdjldmpfginkdaagreatdoor", sum := "9453712e1794f98b3f6758b57f149f87aa553d33b94c90dd2530a50b13825b33", func := "telpher/tellaw27.RegLive", spec := "regLive", inPlace := ["slices.overlaps[int]"], unfollowed := true, recurses := true, named := ["telpher/regcode.shapes", "telpher/typeterm.reserved"], apart := false, laid := [("telpher/typeterm.reserved", laid_telpher_typeterm_reserved), ("telpher/regcode.shapes", laid_telpher_regcode_shapes)] }
def RegLiveSaid : Prop := regLiveRow.holds Tryz.pinned (OpenSpec.ofChange regLiveSpec)

/-- ITS FALSE NEIGHBOUR: 'it returns false'. Refute it at one input. -/
def regLiveWrong : ChangeSpec := { name := "regLive", fn := fun _ => fun
  | [d] => { results := [.lit (.bool false)], args := [d] }
  | _ => none }
def RegLiveWrongFalsely : Prop := regLiveRow.holds Tryz.pinned (OpenSpec.ofChange regLiveWrong)

/-- 'tellaw27.RegCodes': WHATEVER THE INPUT: true; the input reads as it did. -/
def regCodesSpec : ChangeSpec := { name := "regCodes", fn := fun _ => fun
  | [d1, d2, d3, d4, d5, d6] => { results := [.lit (.bool true)], args := [d1, d2, d3, d4, d5, d6] }
  | _ => none }
def regCodesRow : OpenClaim := { program := "ytdjldmpfginkdaagreatdoor", sum := "9453712e1794f98b3f6758b57f149f87aa553d33b94c90dd2530a50b13825b33", func := "telpher/tellaw27.RegCodes", spec := "regCodes", inPlace := ["slices.overlaps[int]"], unfollowed := true, recurses := true, named := ["telpher/regcode.shapes", "telpher/typeterm.reserved"], loops := true, apart := false, laid := [("telpher/typeterm.reserved", laid_telpher_typeterm_reserved), ("telpher/regcode.shapes", laid_telpher_regcode_shapes)] }
def RegCodesSaid : Prop := regCodesRow.holds Tryz.pinned (OpenSpec.ofChange regCodesSpec)

/-- ITS FALSE NEIGHBOUR: 'it returns false'. Refute it at one input. -/
def regCodesWrong : ChangeSpec := { name := "regCodes", fn := fun _ => fun
  | [d1, d2, d3, d4, d5, d6] => { results := [.lit (.bool false)], args := [d1, d2, d3, d4, d5, d6] }
  | _ => none }
def RegCodesWrongFalsely : Prop := regCodesRow.holds Tryz.pinned (OpenSpec.ofChange regCodesWrong)

/- THE SECOND FORM. 'bulk': how many values and letters a reading holds, each counted each time it is reached (what is shared counts as often as it is met; a slice's spare places count too). A statement '..UptoSaid' is the law's where the arguments, and the package variables that the reading takes, are together of bulk at most 1048576: NARROWER than '..Said'. Prove '..Said' where nothing that the law and all that it calls make is longer than what came in: it says more and counts as full. Else prove '..UptoSaid'. A law counts once. -/
mutual
def uptoBulk {H : Type} : DataW H → Nat
  | .lit (.string bytes) => bytes.length + 1
  | .lit _ => 1
  | .nil => 1
  | .ptr d => uptoBulk d + 1
  | .slice elems spare => uptoBulkAll elems + uptoBulkAll spare + 1
  | .agg parts => uptoBulkAll parts + 1
  | .iface _ d => uptoBulk d + 1
  | .map entries => uptoBulkEntries entries + 1
  | .held _ => 1
def uptoBulkAll {H : Type} : List (DataW H) → Nat
  | [] => 0
  | d :: r => uptoBulk d + uptoBulkAll r
def uptoBulkEntries {H : Type} : List (Lit × DataW H) → Nat
  | [] => 0
  | x :: r => uptoBulkEntry x + uptoBulkEntries r
def uptoBulkEntry {H : Type} : Lit × DataW H → Nat
  | (.string bytes, d) => bytes.length + uptoBulk d + 1
  | (_, d) => uptoBulk d + 1
 end
def uptoSmall : (H : Type) → List (DataW H) → Bool := fun _ ds => decide (uptoBulkAll ds ≤ 1048576)
def OpenSpec.upto (s : _root_.Go.ChangeSpec) : _root_.Go.OpenSpec := { _root_.Go.OpenSpec.ofChange s with cond := some uptoSmall }

/-- 'tellaw27.RegHeaders', WHERE WHAT IT READS IS OF BULK AT MOST 1048576: true; the input reads as it did. -/
def regHeadersUptoRow : OpenClaim := { program := "ytdjldmpfginkdaagreatdoor", sum := "9453712e1794f98b3f6758b57f149f87aa553d33b94c90dd2530a50b13825b33", func := "telpher/tellaw27.RegHeaders", spec := "regHeaders", inPlace := ["slices.overlaps[int]"], unfollowed := true, recurses := true, named := ["telpher/regcode.shapes", "telpher/typeterm.reserved"], apart := false, laid := [("telpher/typeterm.reserved", laid_telpher_typeterm_reserved), ("telpher/regcode.shapes", laid_telpher_regcode_shapes)], narrowed := true }
def RegHeadersUptoSaid : Prop := regHeadersUptoRow.holds Tryz.pinned (OpenSpec.upto regHeadersSpec)

/-- 'tellaw27.RegLive', WHERE WHAT IT READS IS OF BULK AT MOST 1048576: true; the input reads as it did. -/
def regLiveUptoRow : OpenClaim := { program := "ytdjldmpfginkdaagreatdoor", sum := "9453712e1794f98b3f6758b57f149f87aa553d33b94c90dd2530a50b13825b33", func := "telpher/tellaw27.RegLive", spec := "regLive", inPlace := ["slices.overlaps[int]"], unfollowed := true, recurses := true, named := ["telpher/regcode.shapes", "telpher/typeterm.reserved"], apart := false, laid := [("telpher/typeterm.reserved", laid_telpher_typeterm_reserved), ("telpher/regcode.shapes", laid_telpher_regcode_shapes)], narrowed := true }
def RegLiveUptoSaid : Prop := regLiveUptoRow.holds Tryz.pinned (OpenSpec.upto regLiveSpec)

/-- 'tellaw27.RegCodes', WHERE WHAT IT READS IS OF BULK AT MOST 1048576: true; the input reads as it did. -/
def regCodesUptoRow : OpenClaim := { program := "ytdjldmpfginkdaagreatdoor", sum := "9453712e1794f98b3f6758b57f149f87aa553d33b94c90dd2530a50b13825b33", func := "telpher/tellaw27.RegCodes", spec := "regCodes", inPlace := ["slices.overlaps[int]"], unfollowed := true, recurses := true, named := ["telpher/regcode.shapes", "telpher/typeterm.reserved"], loops := true, apart := false, laid := [("telpher/typeterm.reserved", laid_telpher_typeterm_reserved), ("telpher/regcode.shapes", laid_telpher_regcode_shapes)], narrowed := true }
def RegCodesUptoSaid : Prop := regCodesUptoRow.holds Tryz.pinned (OpenSpec.upto regCodesSpec)

end Rows
end Go.Proofs.YtdjldmpfginkdaaGreatDoor
