/-
  DERIVED. GIVEN WITH THE SEED: THE CARDS: each row of YtfddmifhggnldaaGreatDoorRows.lean that lists a variable, with what it lists TIED to the program's text (the seventh form; the later family's looks); each row that meets fmt, with fmt's text TOLD by the authors' own Lean function (tested against real Go, not proved from fmt's source: count such statements apart). THE CARD IS WHAT COUNTS. Prove the row's statement (the work); the ties are given (YtfddmifhggnldaaGreatDoorTie.lean); close each card by the builder's one call (the guide's Derived/Test/ToyasCard.lean, 'card_holds'). Laid BY PROGRAM, IN A SANDBOX (cutbox-door.mjs). By AI agents, Wed Nov 11 2026. No macro, syntax, notation, axiom, sorry.
-/
import Derived.Test.YtfddmifhggnldaaGreatDoorRows
import GoSem.ClaimSeven
namespace Go.Proofs.YtfddmifhggnldaaGreatDoor
namespace Rows

/-- THE TIED CARD OF 'tellaw6.NormalizeExamples'. -/
def normalizeExamplesCard : Claim7 := { stood := { row := normalizeExamplesRow, standIns := [], harness := (true, "da0b03df2c950a6218e59e9271f73bb82f78ab378947e046664c408ff3995d17"), looks := true }, kinds := [], alts := [], laidByText := true, laidKinds := [.data, .data, .data, .sentinel, .sentinel, .widerDeep, .widerDeep], laidTests := true, laidLooks := .later }
def NormalizeExamplesCardSaid : Prop := Claim7.holds Tryz.pinned (.plain (OpenSpec.ofChange normalizeExamplesSpec)) normalizeExamplesCard

/-- THE TIED CARD OF 'tellaw9.IntersectExamples'. -/
def intersectExamplesCard : Claim7 := { stood := { row := intersectExamplesRow, standIns := [], harness := (true, "da0b03df2c950a6218e59e9271f73bb82f78ab378947e046664c408ff3995d17"), looks := true }, kinds := [], alts := [], laidByText := true, laidKinds := [.data, .data, .data, .sentinel, .sentinel, .widerDeep, .widerDeep], laidTests := true, laidLooks := .later }
def IntersectExamplesCardSaid : Prop := Claim7.holds Tryz.pinned (.plain (OpenSpec.ofChange intersectExamplesSpec)) intersectExamplesCard

/-- THE TIED CARD OF 'tellaw7.CertificateExamples'. -/
def certificateExamplesCard : Claim7 := { stood := { row := certificateExamplesRow, standIns := [], harness := (true, "da0b03df2c950a6218e59e9271f73bb82f78ab378947e046664c408ff3995d17"), looks := true }, kinds := [], alts := [], laidByText := true, laidKinds := [.data, .data, .data, .sentinel, .sentinel, .widerDeep, .widerDeep], laidTests := true, laidLooks := .later }
def CertificateExamplesCardSaid : Prop := Claim7.holds Tryz.pinned (.plain (OpenSpec.ofChange certificateExamplesSpec)) certificateExamplesCard

/-- THE TIED CARD OF 'tellaw8.ConcreteExamples'. -/
def concreteExamplesCard : Claim7 := { stood := { row := concreteExamplesRow, standIns := [], harness := (true, "da0b03df2c950a6218e59e9271f73bb82f78ab378947e046664c408ff3995d17"), looks := true }, kinds := [], alts := [], laidByText := true, laidKinds := [.data, .data, .data, .sentinel, .sentinel, .widerDeep, .widerDeep], laidTests := true, laidLooks := .later }
def ConcreteExamplesCardSaid : Prop := Claim7.holds Tryz.pinned (.plain (OpenSpec.ofChange concreteExamplesSpec)) concreteExamplesCard

/-- THE TIED CARD OF 'tellaw12.SpecificityExamples'. -/
def specificityExamplesCard : Claim7 := { stood := { row := specificityExamplesRow, standIns := [], harness := (true, "da0b03df2c950a6218e59e9271f73bb82f78ab378947e046664c408ff3995d17"), looks := true }, kinds := [], alts := [], laidByText := true, laidKinds := [.data, .data, .data, .sentinel, .sentinel, .widerDeep, .widerDeep], laidTests := true, laidLooks := .later }
def SpecificityExamplesCardSaid : Prop := Claim7.holds Tryz.pinned (.plain (OpenSpec.ofChange specificityExamplesSpec)) specificityExamplesCard

/-- THE SECOND FORM's CARD OF 'tellaw6.NormalizeExamples'. -/
def normalizeExamplesUptoCard : Claim7 := { stood := { row := normalizeExamplesUptoRow, standIns := [], harness := (true, "da0b03df2c950a6218e59e9271f73bb82f78ab378947e046664c408ff3995d17"), looks := true }, kinds := [], alts := [], laidByText := true, laidKinds := [.data, .data, .data, .sentinel, .sentinel, .widerDeep, .widerDeep], laidTests := true, laidLooks := .later }
def NormalizeExamplesUptoCardSaid : Prop := Claim7.holds Tryz.pinned (.plain (OpenSpec.upto normalizeExamplesSpec)) normalizeExamplesUptoCard

/-- THE SECOND FORM's CARD OF 'tellaw9.IntersectExamples'. -/
def intersectExamplesUptoCard : Claim7 := { stood := { row := intersectExamplesUptoRow, standIns := [], harness := (true, "da0b03df2c950a6218e59e9271f73bb82f78ab378947e046664c408ff3995d17"), looks := true }, kinds := [], alts := [], laidByText := true, laidKinds := [.data, .data, .data, .sentinel, .sentinel, .widerDeep, .widerDeep], laidTests := true, laidLooks := .later }
def IntersectExamplesUptoCardSaid : Prop := Claim7.holds Tryz.pinned (.plain (OpenSpec.upto intersectExamplesSpec)) intersectExamplesUptoCard

/-- THE SECOND FORM's CARD OF 'tellaw7.CertificateExamples'. -/
def certificateExamplesUptoCard : Claim7 := { stood := { row := certificateExamplesUptoRow, standIns := [], harness := (true, "da0b03df2c950a6218e59e9271f73bb82f78ab378947e046664c408ff3995d17"), looks := true }, kinds := [], alts := [], laidByText := true, laidKinds := [.data, .data, .data, .sentinel, .sentinel, .widerDeep, .widerDeep], laidTests := true, laidLooks := .later }
def CertificateExamplesUptoCardSaid : Prop := Claim7.holds Tryz.pinned (.plain (OpenSpec.upto certificateExamplesSpec)) certificateExamplesUptoCard

/-- THE SECOND FORM's CARD OF 'tellaw8.ConcreteExamples'. -/
def concreteExamplesUptoCard : Claim7 := { stood := { row := concreteExamplesUptoRow, standIns := [], harness := (true, "da0b03df2c950a6218e59e9271f73bb82f78ab378947e046664c408ff3995d17"), looks := true }, kinds := [], alts := [], laidByText := true, laidKinds := [.data, .data, .data, .sentinel, .sentinel, .widerDeep, .widerDeep], laidTests := true, laidLooks := .later }
def ConcreteExamplesUptoCardSaid : Prop := Claim7.holds Tryz.pinned (.plain (OpenSpec.upto concreteExamplesSpec)) concreteExamplesUptoCard

/-- THE SECOND FORM's CARD OF 'tellaw12.SpecificityExamples'. -/
def specificityExamplesUptoCard : Claim7 := { stood := { row := specificityExamplesUptoRow, standIns := [], harness := (true, "da0b03df2c950a6218e59e9271f73bb82f78ab378947e046664c408ff3995d17"), looks := true }, kinds := [], alts := [], laidByText := true, laidKinds := [.data, .data, .data, .sentinel, .sentinel, .widerDeep, .widerDeep], laidTests := true, laidLooks := .later }
def SpecificityExamplesUptoCardSaid : Prop := Claim7.holds Tryz.pinned (.plain (OpenSpec.upto specificityExamplesSpec)) specificityExamplesUptoCard
end Rows
end Go.Proofs.YtfddmifhggnldaaGreatDoor
