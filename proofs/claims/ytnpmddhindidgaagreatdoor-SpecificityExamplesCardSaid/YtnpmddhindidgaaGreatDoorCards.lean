/-
  DERIVED. GIVEN WITH THE SEED: THE CARDS: each row of YtnpmddhindidgaaGreatDoorRows.lean that lists a variable, with what it lists TIED to the program's text (the seventh form; the later family's looks); each row that meets fmt, with fmt's text TOLD by the authors' own Lean function (tested against real Go, not proved from fmt's source: count such statements apart). THE CARD IS WHAT COUNTS. Prove the row's statement (the work); the ties are given (YtnpmddhindidgaaGreatDoorTie.lean); close each card by the builder's one call (the guide's Derived/Test/ToyasCard.lean, 'card_holds'). Laid BY PROGRAM, IN A SANDBOX (cutbox-door.mjs). By AI agents, Wed Nov 11 2026. No macro, syntax, notation, axiom, sorry.
-/
import Derived.Test.YtnpmddhindidgaaGreatDoorRows
import GoSem.ClaimSeven
namespace Go.Proofs.YtnpmddhindidgaaGreatDoor
namespace Rows

/-- THE TIED CARD OF 'tellaw6.NormalizeComputes'. -/
def normalizeComputesCard : Claim7 := { stood := { row := normalizeComputesRow, standIns := [], harness := (true, "bacaf4f270b8332167576ba53d39e749af8c7f6434842e1ffa0447a735d36bed"), looks := true }, kinds := [], alts := [], laidByText := true, laidKinds := [.data, .data, .data, .sentinel, .sentinel, .widerDeep, .widerDeep, .data, .data], laidTests := true, laidLooks := .later }
def NormalizeComputesCardSaid : Prop := Claim7.holds Tryz.pinned (.plain (OpenSpec.ofChange normalizeComputesSpec)) normalizeComputesCard

/-- THE TIED CARD OF 'tellaw12.SpecificityExamples'. -/
def specificityExamplesCard : Claim7 := { stood := { row := specificityExamplesRow, standIns := [], harness := (true, "bacaf4f270b8332167576ba53d39e749af8c7f6434842e1ffa0447a735d36bed"), looks := true }, kinds := [], alts := [], laidByText := true, laidKinds := [.data, .data, .data, .sentinel, .sentinel, .widerDeep, .widerDeep], laidTests := true, laidLooks := .later }
def SpecificityExamplesCardSaid : Prop := Claim7.holds Tryz.pinned (.plain (OpenSpec.ofChange specificityExamplesSpec)) specificityExamplesCard

/-- THE TIED CARD OF 'tellaw12.SpecificityComputes'. -/
def specificityComputesCard : Claim7 := { stood := { row := specificityComputesRow, standIns := [], harness := (true, "bacaf4f270b8332167576ba53d39e749af8c7f6434842e1ffa0447a735d36bed"), looks := true }, kinds := [], alts := [], laidByText := true, laidKinds := [.data, .data, .data, .sentinel, .sentinel, .widerDeep, .widerDeep, .data, .data], laidTests := true, laidLooks := .later }
def SpecificityComputesCardSaid : Prop := Claim7.holds Tryz.pinned (.plain (OpenSpec.ofChange specificityComputesSpec)) specificityComputesCard

/-- THE SECOND FORM's CARD OF 'tellaw6.NormalizeComputes'. -/
def normalizeComputesUptoCard : Claim7 := { stood := { row := normalizeComputesUptoRow, standIns := [], harness := (true, "bacaf4f270b8332167576ba53d39e749af8c7f6434842e1ffa0447a735d36bed"), looks := true }, kinds := [], alts := [], laidByText := true, laidKinds := [.data, .data, .data, .sentinel, .sentinel, .widerDeep, .widerDeep, .data, .data], laidTests := true, laidLooks := .later }
def NormalizeComputesUptoCardSaid : Prop := Claim7.holds Tryz.pinned (.plain (OpenSpec.upto normalizeComputesSpec)) normalizeComputesUptoCard

/-- THE SECOND FORM's CARD OF 'tellaw12.SpecificityExamples'. -/
def specificityExamplesUptoCard : Claim7 := { stood := { row := specificityExamplesUptoRow, standIns := [], harness := (true, "bacaf4f270b8332167576ba53d39e749af8c7f6434842e1ffa0447a735d36bed"), looks := true }, kinds := [], alts := [], laidByText := true, laidKinds := [.data, .data, .data, .sentinel, .sentinel, .widerDeep, .widerDeep], laidTests := true, laidLooks := .later }
def SpecificityExamplesUptoCardSaid : Prop := Claim7.holds Tryz.pinned (.plain (OpenSpec.upto specificityExamplesSpec)) specificityExamplesUptoCard

/-- THE SECOND FORM's CARD OF 'tellaw12.SpecificityComputes'. -/
def specificityComputesUptoCard : Claim7 := { stood := { row := specificityComputesUptoRow, standIns := [], harness := (true, "bacaf4f270b8332167576ba53d39e749af8c7f6434842e1ffa0447a735d36bed"), looks := true }, kinds := [], alts := [], laidByText := true, laidKinds := [.data, .data, .data, .sentinel, .sentinel, .widerDeep, .widerDeep, .data, .data], laidTests := true, laidLooks := .later }
def SpecificityComputesUptoCardSaid : Prop := Claim7.holds Tryz.pinned (.plain (OpenSpec.upto specificityComputesSpec)) specificityComputesUptoCard
end Rows
end Go.Proofs.YtnpmddhindidgaaGreatDoor
