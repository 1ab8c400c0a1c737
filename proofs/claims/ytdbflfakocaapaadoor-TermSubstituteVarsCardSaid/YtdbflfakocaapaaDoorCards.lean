/-
  DERIVED. GIVEN WITH THE SEED: THE CARDS: each row of YtdbflfakocaapaaDoorRows.lean that lists a variable, with what it lists TIED to the program's text (the seventh form; the later family's looks); each row that meets fmt, with fmt's text TOLD by the authors' own Lean function (tested against real Go, not proved from fmt's source: count such statements apart). THE CARD IS WHAT COUNTS. Prove the row's statement (the work); the ties are given (YtdbflfakocaapaaDoorTie.lean); close each card by the builder's one call (the guide's Derived/Test/ToyasCard.lean, 'card_holds'). Laid BY PROGRAM, IN A SANDBOX (cutbox-door.mjs). By AI agents, Wed Nov 11 2026. No macro, syntax, notation, axiom, sorry.
-/
import Derived.Test.YtdbflfakocaapaaDoorRows
import GoSem.ClaimSeven
namespace Go.Proofs.YtdbflfakocaapaaDoor
namespace Rows

/-- THE TIED CARD OF 'tellaw2.TermValidate'. -/
def termValidateCard : Claim7 := { stood := { row := termValidateRow, standIns := [], harness := (true, "12a5db1214b66991b0be2fd6091ce5d6a41ad25ab7885435933e4b17d5f41cd7"), looks := false }, kinds := [], alts := [], laidByText := true, laidKinds := [.widerDeep, .data], laidTests := true, laidLooks := .later }
def TermValidateCardSaid : Prop := Claim7.holds Tryd.pinned (.plain (OpenSpec.ofChange termValidateSpec)) termValidateCard

/-- THE TIED CARD OF 'tellaw2.TermSpoiled'. -/
def termSpoiledCard : Claim7 := { stood := { row := termSpoiledRow, standIns := [], harness := (true, "12a5db1214b66991b0be2fd6091ce5d6a41ad25ab7885435933e4b17d5f41cd7"), looks := false }, kinds := [], alts := [], laidByText := true, laidKinds := [.widerDeep, .data], laidTests := true, laidLooks := .later }
def TermSpoiledCardSaid : Prop := Claim7.holds Tryd.pinned (.plain (OpenSpec.ofChange termSpoiledSpec)) termSpoiledCard

/-- THE TIED CARD OF 'tellaw2.TermLimits'. -/
def termLimitsCard : Claim7 := { stood := { row := termLimitsRow, standIns := [], harness := (true, "12a5db1214b66991b0be2fd6091ce5d6a41ad25ab7885435933e4b17d5f41cd7"), looks := false }, kinds := [], alts := [], laidByText := true, laidKinds := [.widerDeep], laidTests := true, laidLooks := .later }
def TermLimitsCardSaid : Prop := Claim7.holds Tryd.pinned (.plain (OpenSpec.ofChange termLimitsSpec)) termLimitsCard

/-- THE TIED CARD OF 'tellaw2.TermMeasures'. -/
def termMeasuresCard : Claim7 := { stood := { row := termMeasuresRow, standIns := [], harness := (true, "12a5db1214b66991b0be2fd6091ce5d6a41ad25ab7885435933e4b17d5f41cd7"), looks := false }, kinds := [], alts := [], laidByText := true, laidKinds := [.widerDeep, .data], laidTests := true, laidLooks := .later }
def TermMeasuresCardSaid : Prop := Claim7.holds Tryd.pinned (.plain (OpenSpec.ofChange termMeasuresSpec)) termMeasuresCard

/-- THE TIED CARD OF 'tellaw2.TermOrder'. -/
def termOrderCard : Claim7 := { stood := { row := termOrderRow, standIns := [], harness := (true, "12a5db1214b66991b0be2fd6091ce5d6a41ad25ab7885435933e4b17d5f41cd7"), looks := false }, kinds := [], alts := [], laidByText := true, laidKinds := [.widerDeep, .data], laidTests := true, laidLooks := .later }
def TermOrderCardSaid : Prop := Claim7.holds Tryd.pinned (.plain (OpenSpec.ofChange termOrderSpec)) termOrderCard

/-- THE TIED CARD OF 'tellaw2.TermCompare'. -/
def termCompareCard : Claim7 := { stood := { row := termCompareRow, standIns := [], harness := (true, "12a5db1214b66991b0be2fd6091ce5d6a41ad25ab7885435933e4b17d5f41cd7"), looks := false }, kinds := [], alts := [], laidByText := true, laidKinds := [.widerDeep, .data], laidTests := true, laidLooks := .later }
def TermCompareCardSaid : Prop := Claim7.holds Tryd.pinned (.plain (OpenSpec.ofChange termCompareSpec)) termCompareCard

/-- THE TIED CARD OF 'tellaw2.TermExamples'. -/
def termExamplesCard : Claim7 := { stood := { row := termExamplesRow, standIns := [], harness := (true, "12a5db1214b66991b0be2fd6091ce5d6a41ad25ab7885435933e4b17d5f41cd7"), looks := false }, kinds := [], alts := [], laidByText := true, laidKinds := [.widerDeep], laidTests := true, laidLooks := .later }
def TermExamplesCardSaid : Prop := Claim7.holds Tryd.pinned (.plain (OpenSpec.ofChange termExamplesSpec)) termExamplesCard

/-- THE TIED CARD OF 'tellaw2.TermSubstitute'. -/
def termSubstituteCard : Claim7 := { stood := { row := termSubstituteRow, standIns := [], harness := (true, "12a5db1214b66991b0be2fd6091ce5d6a41ad25ab7885435933e4b17d5f41cd7"), looks := false }, kinds := [], alts := [], laidByText := true, laidKinds := [.widerDeep, .data], laidTests := true, laidLooks := .later }
def TermSubstituteCardSaid : Prop := Claim7.holds Tryd.pinned (.plain (OpenSpec.ofChange termSubstituteSpec)) termSubstituteCard

/-- THE TIED CARD OF 'tellaw2.TermSubstituteVars'. -/
def termSubstituteVarsCard : Claim7 := { stood := { row := termSubstituteVarsRow, standIns := [], harness := (true, "12a5db1214b66991b0be2fd6091ce5d6a41ad25ab7885435933e4b17d5f41cd7"), looks := false }, kinds := [], alts := [], laidByText := true, laidKinds := [.widerDeep, .data], laidTests := true, laidLooks := .later }
def TermSubstituteVarsCardSaid : Prop := Claim7.holds Tryd.pinned (.plain (OpenSpec.ofChange termSubstituteVarsSpec)) termSubstituteVarsCard

/-- THE SECOND FORM's CARD OF 'tellaw2.TermValidate'. -/
def termValidateUptoCard : Claim7 := { stood := { row := termValidateUptoRow, standIns := [], harness := (true, "12a5db1214b66991b0be2fd6091ce5d6a41ad25ab7885435933e4b17d5f41cd7"), looks := false }, kinds := [], alts := [], laidByText := true, laidKinds := [.widerDeep, .data], laidTests := true, laidLooks := .later }
def TermValidateUptoCardSaid : Prop := Claim7.holds Tryd.pinned (.plain (OpenSpec.upto termValidateSpec)) termValidateUptoCard

/-- THE SECOND FORM's CARD OF 'tellaw2.TermSpoiled'. -/
def termSpoiledUptoCard : Claim7 := { stood := { row := termSpoiledUptoRow, standIns := [], harness := (true, "12a5db1214b66991b0be2fd6091ce5d6a41ad25ab7885435933e4b17d5f41cd7"), looks := false }, kinds := [], alts := [], laidByText := true, laidKinds := [.widerDeep, .data], laidTests := true, laidLooks := .later }
def TermSpoiledUptoCardSaid : Prop := Claim7.holds Tryd.pinned (.plain (OpenSpec.upto termSpoiledSpec)) termSpoiledUptoCard

/-- THE SECOND FORM's CARD OF 'tellaw2.TermLimits'. -/
def termLimitsUptoCard : Claim7 := { stood := { row := termLimitsUptoRow, standIns := [], harness := (true, "12a5db1214b66991b0be2fd6091ce5d6a41ad25ab7885435933e4b17d5f41cd7"), looks := false }, kinds := [], alts := [], laidByText := true, laidKinds := [.widerDeep], laidTests := true, laidLooks := .later }
def TermLimitsUptoCardSaid : Prop := Claim7.holds Tryd.pinned (.plain (OpenSpec.upto termLimitsSpec)) termLimitsUptoCard

/-- THE SECOND FORM's CARD OF 'tellaw2.TermMeasures'. -/
def termMeasuresUptoCard : Claim7 := { stood := { row := termMeasuresUptoRow, standIns := [], harness := (true, "12a5db1214b66991b0be2fd6091ce5d6a41ad25ab7885435933e4b17d5f41cd7"), looks := false }, kinds := [], alts := [], laidByText := true, laidKinds := [.widerDeep, .data], laidTests := true, laidLooks := .later }
def TermMeasuresUptoCardSaid : Prop := Claim7.holds Tryd.pinned (.plain (OpenSpec.upto termMeasuresSpec)) termMeasuresUptoCard

/-- THE SECOND FORM's CARD OF 'tellaw2.TermOrder'. -/
def termOrderUptoCard : Claim7 := { stood := { row := termOrderUptoRow, standIns := [], harness := (true, "12a5db1214b66991b0be2fd6091ce5d6a41ad25ab7885435933e4b17d5f41cd7"), looks := false }, kinds := [], alts := [], laidByText := true, laidKinds := [.widerDeep, .data], laidTests := true, laidLooks := .later }
def TermOrderUptoCardSaid : Prop := Claim7.holds Tryd.pinned (.plain (OpenSpec.upto termOrderSpec)) termOrderUptoCard

/-- THE SECOND FORM's CARD OF 'tellaw2.TermCompare'. -/
def termCompareUptoCard : Claim7 := { stood := { row := termCompareUptoRow, standIns := [], harness := (true, "12a5db1214b66991b0be2fd6091ce5d6a41ad25ab7885435933e4b17d5f41cd7"), looks := false }, kinds := [], alts := [], laidByText := true, laidKinds := [.widerDeep, .data], laidTests := true, laidLooks := .later }
def TermCompareUptoCardSaid : Prop := Claim7.holds Tryd.pinned (.plain (OpenSpec.upto termCompareSpec)) termCompareUptoCard

/-- THE SECOND FORM's CARD OF 'tellaw2.TermExamples'. -/
def termExamplesUptoCard : Claim7 := { stood := { row := termExamplesUptoRow, standIns := [], harness := (true, "12a5db1214b66991b0be2fd6091ce5d6a41ad25ab7885435933e4b17d5f41cd7"), looks := false }, kinds := [], alts := [], laidByText := true, laidKinds := [.widerDeep], laidTests := true, laidLooks := .later }
def TermExamplesUptoCardSaid : Prop := Claim7.holds Tryd.pinned (.plain (OpenSpec.upto termExamplesSpec)) termExamplesUptoCard

/-- THE SECOND FORM's CARD OF 'tellaw2.TermSubstitute'. -/
def termSubstituteUptoCard : Claim7 := { stood := { row := termSubstituteUptoRow, standIns := [], harness := (true, "12a5db1214b66991b0be2fd6091ce5d6a41ad25ab7885435933e4b17d5f41cd7"), looks := false }, kinds := [], alts := [], laidByText := true, laidKinds := [.widerDeep, .data], laidTests := true, laidLooks := .later }
def TermSubstituteUptoCardSaid : Prop := Claim7.holds Tryd.pinned (.plain (OpenSpec.upto termSubstituteSpec)) termSubstituteUptoCard

/-- THE SECOND FORM's CARD OF 'tellaw2.TermSubstituteVars'. -/
def termSubstituteVarsUptoCard : Claim7 := { stood := { row := termSubstituteVarsUptoRow, standIns := [], harness := (true, "12a5db1214b66991b0be2fd6091ce5d6a41ad25ab7885435933e4b17d5f41cd7"), looks := false }, kinds := [], alts := [], laidByText := true, laidKinds := [.widerDeep, .data], laidTests := true, laidLooks := .later }
def TermSubstituteVarsUptoCardSaid : Prop := Claim7.holds Tryd.pinned (.plain (OpenSpec.upto termSubstituteVarsSpec)) termSubstituteVarsUptoCard
end Rows
end Go.Proofs.YtdbflfakocaapaaDoor
