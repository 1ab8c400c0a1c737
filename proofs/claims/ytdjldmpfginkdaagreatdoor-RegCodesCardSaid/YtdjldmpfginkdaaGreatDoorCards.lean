/-
  DERIVED. GIVEN WITH THE SEED: THE CARDS: each row of YtdjldmpfginkdaaGreatDoorRows.lean that lists a variable, with what it lists TIED to the program's text (the seventh form; the later family's looks); each row that meets fmt, with fmt's text TOLD by the authors' own Lean function (tested against real Go, not proved from fmt's source: count such statements apart). THE CARD IS WHAT COUNTS. Prove the row's statement (the work); the ties are given (YtdjldmpfginkdaaGreatDoorTie.lean); close each card by the builder's one call (the guide's Derived/Test/ToyasCard.lean, 'card_holds'). Laid BY PROGRAM, IN A SANDBOX (cutbox-door.mjs). By AI agents, Wed Nov 11 2026. No macro, syntax, notation, axiom, sorry.
-/
import Derived.Test.YtdjldmpfginkdaaGreatDoorRows
import GoSem.ClaimSeven
namespace Go.Proofs.YtdjldmpfginkdaaGreatDoor
namespace Rows

/-- THE TIED CARD OF 'tellaw27.RegHeaders'. -/
def regHeadersCard : Claim7 := { stood := { row := regHeadersRow, standIns := [], harness := (true, "d1c7903f112522ae86d9ec6a8f33d771d15eb4d5959807c3f0be29726797df86"), looks := false }, kinds := [], alts := [], laidByText := true, laidKinds := [.widerDeep, .data], laidTests := true, laidLooks := .later }
def RegHeadersCardSaid : Prop := Claim7.holds Tryz.pinned (.plain (OpenSpec.ofChange regHeadersSpec)) regHeadersCard

/-- THE TIED CARD OF 'tellaw27.RegLive'. -/
def regLiveCard : Claim7 := { stood := { row := regLiveRow, standIns := [], harness := (true, "d1c7903f112522ae86d9ec6a8f33d771d15eb4d5959807c3f0be29726797df86"), looks := false }, kinds := [], alts := [], laidByText := true, laidKinds := [.widerDeep, .data], laidTests := true, laidLooks := .later }
def RegLiveCardSaid : Prop := Claim7.holds Tryz.pinned (.plain (OpenSpec.ofChange regLiveSpec)) regLiveCard

/-- THE TIED CARD OF 'tellaw27.RegCodes'. -/
def regCodesCard : Claim7 := { stood := { row := regCodesRow, standIns := [], harness := (true, "d1c7903f112522ae86d9ec6a8f33d771d15eb4d5959807c3f0be29726797df86"), looks := false }, kinds := [], alts := [], laidByText := true, laidKinds := [.widerDeep, .data], laidTests := true, laidLooks := .later }
def RegCodesCardSaid : Prop := Claim7.holds Tryz.pinned (.plain (OpenSpec.ofChange regCodesSpec)) regCodesCard

/-- THE SECOND FORM's CARD OF 'tellaw27.RegHeaders'. -/
def regHeadersUptoCard : Claim7 := { stood := { row := regHeadersUptoRow, standIns := [], harness := (true, "d1c7903f112522ae86d9ec6a8f33d771d15eb4d5959807c3f0be29726797df86"), looks := false }, kinds := [], alts := [], laidByText := true, laidKinds := [.widerDeep, .data], laidTests := true, laidLooks := .later }
def RegHeadersUptoCardSaid : Prop := Claim7.holds Tryz.pinned (.plain (OpenSpec.upto regHeadersSpec)) regHeadersUptoCard

/-- THE SECOND FORM's CARD OF 'tellaw27.RegLive'. -/
def regLiveUptoCard : Claim7 := { stood := { row := regLiveUptoRow, standIns := [], harness := (true, "d1c7903f112522ae86d9ec6a8f33d771d15eb4d5959807c3f0be29726797df86"), looks := false }, kinds := [], alts := [], laidByText := true, laidKinds := [.widerDeep, .data], laidTests := true, laidLooks := .later }
def RegLiveUptoCardSaid : Prop := Claim7.holds Tryz.pinned (.plain (OpenSpec.upto regLiveSpec)) regLiveUptoCard

/-- THE SECOND FORM's CARD OF 'tellaw27.RegCodes'. -/
def regCodesUptoCard : Claim7 := { stood := { row := regCodesUptoRow, standIns := [], harness := (true, "d1c7903f112522ae86d9ec6a8f33d771d15eb4d5959807c3f0be29726797df86"), looks := false }, kinds := [], alts := [], laidByText := true, laidKinds := [.widerDeep, .data], laidTests := true, laidLooks := .later }
def RegCodesUptoCardSaid : Prop := Claim7.holds Tryz.pinned (.plain (OpenSpec.upto regCodesSpec)) regCodesUptoCard
end Rows
end Go.Proofs.YtdjldmpfginkdaaGreatDoor
