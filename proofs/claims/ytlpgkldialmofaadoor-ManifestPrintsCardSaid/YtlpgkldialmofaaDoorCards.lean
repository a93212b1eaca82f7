/-
  DERIVED. GIVEN WITH THE SEED: THE CARDS: each row of YtlpgkldialmofaaDoorRows.lean that lists a variable, with what it lists TIED to the program's text (the seventh form; the later family's looks); each row that meets fmt, with fmt's text TOLD by the authors' own Lean function (tested against real Go, not proved from fmt's source: count such statements apart). THE CARD IS WHAT COUNTS. Prove the row's statement (the work); the ties are given (YtlpgkldialmofaaDoorTie.lean); close each card by the builder's one call (the guide's Derived/Test/ToyasCard.lean, 'card_holds'). Laid BY PROGRAM, IN A SANDBOX (cutbox-door.mjs). By AI agents, Wed Nov 11 2026. No macro, syntax, notation, axiom, sorry.
-/
import Derived.Test.YtlpgkldialmofaaDoorRows
import GoSem.ClaimSeven
namespace Go.Proofs.YtlpgkldialmofaaDoor
namespace Rows

/-- THE TIED CARD OF 'merlonlaw01.SemverTexts'. -/
def semverTextsCard : Claim7 := { stood := { row := semverTextsRow, standIns := [], harness := (true, "a314af4170112578cafbdd2be32d1016a24402a872f8c5928f66db16813d3905"), looks := true }, kinds := [], alts := [], laidByText := true, laidKinds := [.data, .data, .data, .data, .pinned], laidTests := true, laidLooks := .later }
def SemverTextsCardSaid : Prop := Claim7.holds Tryd.pinned (.plain (OpenSpec.ofChange semverTextsSpec)) semverTextsCard

/-- THE TIED CARD OF 'merlonlaw01.SemverBack'. -/
def semverBackCard : Claim7 := { stood := { row := semverBackRow, standIns := [], harness := (true, "a314af4170112578cafbdd2be32d1016a24402a872f8c5928f66db16813d3905"), looks := true }, kinds := [], alts := [], laidByText := true, laidKinds := [.data, .data, .data, .data, .pinned], laidTests := true, laidLooks := .later }
def SemverBackCardSaid : Prop := Claim7.holds Tryd.pinned (.plain (OpenSpec.ofChange semverBackSpec)) semverBackCard

/-- THE TIED CARD OF 'merlonlaw01.SemverRanges'. -/
def semverRangesCard : Claim7 := { stood := { row := semverRangesRow, standIns := [], harness := (true, "a314af4170112578cafbdd2be32d1016a24402a872f8c5928f66db16813d3905"), looks := true }, kinds := [], alts := [], laidByText := true, laidKinds := [.data, .data, .data, .data, .pinned], laidTests := true, laidLooks := .later }
def SemverRangesCardSaid : Prop := Claim7.holds Tryd.pinned (.plain (OpenSpec.ofChange semverRangesSpec)) semverRangesCard

/-- THE TIED CARD OF 'merlonlaw14.ManifestPrints'. -/
def manifestPrintsCard : Claim7 := { stood := { row := manifestPrintsRow, standIns := [], harness := (true, "a314af4170112578cafbdd2be32d1016a24402a872f8c5928f66db16813d3905"), looks := true }, kinds := [], alts := [], laidByText := true, laidKinds := [.data, .data, .data, .data, .pinned], laidTests := true, laidLooks := .later }
def ManifestPrintsCardSaid : Prop := Claim7.holds Tryd.pinned (.plain (OpenSpec.ofChange manifestPrintsSpec)) manifestPrintsCard

/-- THE SECOND FORM's CARD OF 'merlonlaw01.SemverTexts'. -/
def semverTextsUptoCard : Claim7 := { stood := { row := semverTextsUptoRow, standIns := [], harness := (true, "a314af4170112578cafbdd2be32d1016a24402a872f8c5928f66db16813d3905"), looks := true }, kinds := [], alts := [], laidByText := true, laidKinds := [.data, .data, .data, .data, .pinned], laidTests := true, laidLooks := .later }
def SemverTextsUptoCardSaid : Prop := Claim7.holds Tryd.pinned (.plain (OpenSpec.upto semverTextsSpec)) semverTextsUptoCard

/-- THE SECOND FORM's CARD OF 'merlonlaw01.SemverBack'. -/
def semverBackUptoCard : Claim7 := { stood := { row := semverBackUptoRow, standIns := [], harness := (true, "a314af4170112578cafbdd2be32d1016a24402a872f8c5928f66db16813d3905"), looks := true }, kinds := [], alts := [], laidByText := true, laidKinds := [.data, .data, .data, .data, .pinned], laidTests := true, laidLooks := .later }
def SemverBackUptoCardSaid : Prop := Claim7.holds Tryd.pinned (.plain (OpenSpec.upto semverBackSpec)) semverBackUptoCard

/-- THE SECOND FORM's CARD OF 'merlonlaw01.SemverRanges'. -/
def semverRangesUptoCard : Claim7 := { stood := { row := semverRangesUptoRow, standIns := [], harness := (true, "a314af4170112578cafbdd2be32d1016a24402a872f8c5928f66db16813d3905"), looks := true }, kinds := [], alts := [], laidByText := true, laidKinds := [.data, .data, .data, .data, .pinned], laidTests := true, laidLooks := .later }
def SemverRangesUptoCardSaid : Prop := Claim7.holds Tryd.pinned (.plain (OpenSpec.upto semverRangesSpec)) semverRangesUptoCard

/-- THE SECOND FORM's CARD OF 'merlonlaw14.ManifestPrints'. -/
def manifestPrintsUptoCard : Claim7 := { stood := { row := manifestPrintsUptoRow, standIns := [], harness := (true, "a314af4170112578cafbdd2be32d1016a24402a872f8c5928f66db16813d3905"), looks := true }, kinds := [], alts := [], laidByText := true, laidKinds := [.data, .data, .data, .data, .pinned], laidTests := true, laidLooks := .later }
def ManifestPrintsUptoCardSaid : Prop := Claim7.holds Tryd.pinned (.plain (OpenSpec.upto manifestPrintsSpec)) manifestPrintsUptoCard
end Rows
end Go.Proofs.YtlpgkldialmofaaDoor
