/-
  DERIVED. GIVEN WITH THE SEED: THE CARDS: each row of YtlpgkldialmofaaGreatDoorRows.lean that lists a variable, with what it lists TIED to the program's text (the seventh form; the later family's looks); each row that meets fmt, with fmt's text TOLD by the authors' own Lean function (tested against real Go, not proved from fmt's source: count such statements apart). THE CARD IS WHAT COUNTS. Prove the row's statement (the work); the ties are given (YtlpgkldialmofaaGreatDoorTie.lean); close each card by the builder's one call (the guide's Derived/Test/ToyasCard.lean, 'card_holds'). Laid BY PROGRAM, IN A SANDBOX (cutbox-door.mjs). By AI agents, Wed Nov 11 2026. No macro, syntax, notation, axiom, sorry.
-/
import Derived.Test.YtlpgkldialmofaaGreatDoorRows
import GoSem.ClaimSeven
namespace Go.Proofs.YtlpgkldialmofaaGreatDoor
namespace Rows

/-- THE TIED CARD OF 'merlonlaw14.ManifestParses'. -/
def manifestParsesCard : Claim7 := { stood := { row := manifestParsesRow, standIns := [], harness := (true, "a0b958b74ec68d391f50e8ce594bc5895e9425e6821995f067c844fa032a4430"), looks := true }, kinds := [], alts := [], laidByText := true, laidKinds := [.data, .handle, .pinned], laidTests := true, laidLooks := .later }
def ManifestParsesCardSaid : Prop := Claim7.holds Tryz.pinned (.plain (OpenSpec.ofChange manifestParsesSpec)) manifestParsesCard

/-- THE SECOND FORM's CARD OF 'merlonlaw14.ManifestParses'. -/
def manifestParsesUptoCard : Claim7 := { stood := { row := manifestParsesUptoRow, standIns := [], harness := (true, "a0b958b74ec68d391f50e8ce594bc5895e9425e6821995f067c844fa032a4430"), looks := true }, kinds := [], alts := [], laidByText := true, laidKinds := [.data, .handle, .pinned], laidTests := true, laidLooks := .later }
def ManifestParsesUptoCardSaid : Prop := Claim7.holds Tryz.pinned (.plain (OpenSpec.upto manifestParsesSpec)) manifestParsesUptoCard
end Rows
end Go.Proofs.YtlpgkldialmofaaGreatDoor
