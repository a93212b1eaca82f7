/-
  DERIVED. GIVEN WITH THE SEED: THE CARDS: each row of YtbffijiecbfpnaaGreatDoorRows.lean that lists a variable, with what it lists TIED to the program's text (the seventh form; the later family's looks); each row that meets fmt, with fmt's text TOLD by the authors' own Lean function (tested against real Go, not proved from fmt's source: count such statements apart). THE CARD IS WHAT COUNTS. Prove the row's statement (the work); the ties are given (YtbffijiecbfpnaaGreatDoorTie.lean); close each card by the builder's one call (the guide's Derived/Test/ToyasCard.lean, 'card_holds'). Laid BY PROGRAM, IN A SANDBOX (cutbox-door.mjs). By AI agents, Wed Nov 11 2026. No macro, syntax, notation, axiom, sorry.
-/
import Derived.Test.YtbffijiecbfpnaaGreatDoorRows
import GoSem.ClaimSeven
namespace Go.Proofs.YtbffijiecbfpnaaGreatDoor
namespace Rows

/-- THE TIED CARD OF 'merlonlaw13.WitnessTells'. -/
def witnessTellsCard : Claim7 := { stood := { row := witnessTellsRow, standIns := [], harness := (true, "a94419c2be9a935f36fd9dbc525c3aa972c1cdefbc588a543cc9eb571881678d"), looks := true }, kinds := [], alts := [], laidByText := true, laidKinds := [.data, .data, .data], laidTests := true, laidLooks := .later }
def WitnessTellsCardSaid : Prop := Claim7.holds Tryz.pinned (.plain (OpenSpec.ofChange witnessTellsSpec)) witnessTellsCard

/-- THE SECOND FORM's CARD OF 'merlonlaw13.WitnessTells'. -/
def witnessTellsUptoCard : Claim7 := { stood := { row := witnessTellsUptoRow, standIns := [], harness := (true, "a94419c2be9a935f36fd9dbc525c3aa972c1cdefbc588a543cc9eb571881678d"), looks := true }, kinds := [], alts := [], laidByText := true, laidKinds := [.data, .data, .data], laidTests := true, laidLooks := .later }
def WitnessTellsUptoCardSaid : Prop := Claim7.holds Tryz.pinned (.plain (OpenSpec.upto witnessTellsSpec)) witnessTellsUptoCard
end Rows
end Go.Proofs.YtbffijiecbfpnaaGreatDoor
