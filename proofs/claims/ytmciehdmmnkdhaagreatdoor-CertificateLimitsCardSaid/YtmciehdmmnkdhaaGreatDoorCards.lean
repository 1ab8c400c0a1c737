/-
  DERIVED. GIVEN WITH THE SEED: THE CARDS: each row of YtmciehdmmnkdhaaGreatDoorRows.lean that lists a variable, with what it lists TIED to the program's text (the seventh form; the later family's looks); each row that meets fmt, with fmt's text TOLD by the authors' own Lean function (tested against real Go, not proved from fmt's source: count such statements apart). THE CARD IS WHAT COUNTS. Prove the row's statement (the work); the ties are given (YtmciehdmmnkdhaaGreatDoorTie.lean); close each card by the builder's one call (the guide's Derived/Test/ToyasCard.lean, 'card_holds'). Laid BY PROGRAM, IN A SANDBOX (cutbox-door.mjs). By AI agents, Wed Nov 11 2026. No macro, syntax, notation, axiom, sorry.
-/
import Derived.Test.YtmciehdmmnkdhaaGreatDoorRows
import GoSem.ClaimSeven
namespace Go.Proofs.YtmciehdmmnkdhaaGreatDoor
namespace Rows

/-- THE TIED CARD OF 'tellaw7.CertificateDecodesSpoiled'. -/
def certificateDecodesSpoiledCard : Claim7 := { stood := { row := certificateDecodesSpoiledRow, standIns := [], harness := (true, "79d06dcea461e3e5eb6eaaf5ac6981f432e80c15b4e5784caba9751784f805d0"), looks := true }, kinds := [], alts := [], laidByText := true, laidKinds := [.data, .data, .data, .sentinel, .sentinel, .widerDeep, .widerDeep, .data, .data], laidTests := true, laidLooks := .later }
def CertificateDecodesSpoiledCardSaid : Prop := Claim7.holds Tryz.pinned (.plain (OpenSpec.ofChange certificateDecodesSpoiledSpec)) certificateDecodesSpoiledCard

/-- THE TIED CARD OF 'tellaw7.CertificateEncodes'. -/
def certificateEncodesCard : Claim7 := { stood := { row := certificateEncodesRow, standIns := [], harness := (true, "79d06dcea461e3e5eb6eaaf5ac6981f432e80c15b4e5784caba9751784f805d0"), looks := true }, kinds := [], alts := [], laidByText := true, laidKinds := [.data, .data, .data, .sentinel, .sentinel, .widerDeep, .widerDeep, .data, .data, .data], laidTests := true, laidLooks := .later }
def CertificateEncodesCardSaid : Prop := Claim7.holds Tryz.pinned (.plain (OpenSpec.ofChange certificateEncodesSpec)) certificateEncodesCard

/-- THE TIED CARD OF 'tellaw7.CertificateLimits'. -/
def certificateLimitsCard : Claim7 := { stood := { row := certificateLimitsRow, standIns := [], harness := (true, "79d06dcea461e3e5eb6eaaf5ac6981f432e80c15b4e5784caba9751784f805d0"), looks := true }, kinds := [], alts := [], laidByText := true, laidKinds := [.data, .data, .data, .sentinel, .sentinel, .widerDeep, .widerDeep], laidTests := true, laidLooks := .later }
def CertificateLimitsCardSaid : Prop := Claim7.holds Tryz.pinned (.plain (OpenSpec.ofChange certificateLimitsSpec)) certificateLimitsCard

/-- THE SECOND FORM's CARD OF 'tellaw7.CertificateDecodesSpoiled'. -/
def certificateDecodesSpoiledUptoCard : Claim7 := { stood := { row := certificateDecodesSpoiledUptoRow, standIns := [], harness := (true, "79d06dcea461e3e5eb6eaaf5ac6981f432e80c15b4e5784caba9751784f805d0"), looks := true }, kinds := [], alts := [], laidByText := true, laidKinds := [.data, .data, .data, .sentinel, .sentinel, .widerDeep, .widerDeep, .data, .data], laidTests := true, laidLooks := .later }
def CertificateDecodesSpoiledUptoCardSaid : Prop := Claim7.holds Tryz.pinned (.plain (OpenSpec.upto certificateDecodesSpoiledSpec)) certificateDecodesSpoiledUptoCard

/-- THE SECOND FORM's CARD OF 'tellaw7.CertificateEncodes'. -/
def certificateEncodesUptoCard : Claim7 := { stood := { row := certificateEncodesUptoRow, standIns := [], harness := (true, "79d06dcea461e3e5eb6eaaf5ac6981f432e80c15b4e5784caba9751784f805d0"), looks := true }, kinds := [], alts := [], laidByText := true, laidKinds := [.data, .data, .data, .sentinel, .sentinel, .widerDeep, .widerDeep, .data, .data, .data], laidTests := true, laidLooks := .later }
def CertificateEncodesUptoCardSaid : Prop := Claim7.holds Tryz.pinned (.plain (OpenSpec.upto certificateEncodesSpec)) certificateEncodesUptoCard

/-- THE SECOND FORM's CARD OF 'tellaw7.CertificateLimits'. -/
def certificateLimitsUptoCard : Claim7 := { stood := { row := certificateLimitsUptoRow, standIns := [], harness := (true, "79d06dcea461e3e5eb6eaaf5ac6981f432e80c15b4e5784caba9751784f805d0"), looks := true }, kinds := [], alts := [], laidByText := true, laidKinds := [.data, .data, .data, .sentinel, .sentinel, .widerDeep, .widerDeep], laidTests := true, laidLooks := .later }
def CertificateLimitsUptoCardSaid : Prop := Claim7.holds Tryz.pinned (.plain (OpenSpec.upto certificateLimitsSpec)) certificateLimitsUptoCard
end Rows
end Go.Proofs.YtmciehdmmnkdhaaGreatDoor
