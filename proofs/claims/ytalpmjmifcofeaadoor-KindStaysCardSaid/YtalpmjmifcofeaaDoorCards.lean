/-
  DERIVED. GIVEN WITH THE SEED: THE CARDS: each row of YtalpmjmifcofeaaDoorRows.lean that lists a variable, with what it lists TIED to the program's text (the seventh form; the later family's looks); each row that meets fmt, with fmt's text TOLD by the authors' own Lean function (tested against real Go, not proved from fmt's source: count such statements apart). THE CARD IS WHAT COUNTS. Prove the row's statement (the work); the ties are given (YtalpmjmifcofeaaDoorTie.lean); close each card by the builder's one call (the guide's Derived/Test/ToyasCard.lean, 'card_holds'). Laid BY PROGRAM, IN A SANDBOX (cutbox-door.mjs). By AI agents, Wed Nov 11 2026. No macro, syntax, notation, axiom, sorry.
-/
import Derived.Test.YtalpmjmifcofeaaDoorRows
import GoSem.ClaimSeven
namespace Go.Proofs.YtalpmjmifcofeaaDoor
namespace Rows

/-- THE TIED CARD OF 'merlonlaw04.KindTells'. -/
def kindTellsCard : Claim7 := { stood := { row := kindTellsRow, standIns := [], harness := (true, "7d2da0cd788fc2cd4c12568ab9eaeb9ba75c428b34218451d84875acfed371c9"), looks := true }, kinds := [], alts := [], laidByText := true, laidKinds := [.data, .data, .data], laidTests := true, laidLooks := .later }
def KindTellsCardSaid : Prop := Claim7.holds Tryd.pinned (.plain (OpenSpec.ofChange kindTellsSpec)) kindTellsCard

/-- THE TIED CARD OF 'merlonlaw04.KindSame'. -/
def kindSameCard : Claim7 := { stood := { row := kindSameRow, standIns := [], harness := (true, "7d2da0cd788fc2cd4c12568ab9eaeb9ba75c428b34218451d84875acfed371c9"), looks := true }, kinds := [], alts := [], laidByText := true, laidKinds := [.data, .data, .data], laidTests := true, laidLooks := .later }
def KindSameCardSaid : Prop := Claim7.holds Tryd.pinned (.plain (OpenSpec.ofChange kindSameSpec)) kindSameCard

/-- THE TIED CARD OF 'merlonlaw04.KindStays'. -/
def kindStaysCard : Claim7 := { stood := { row := kindStaysRow, standIns := [], harness := (true, "7d2da0cd788fc2cd4c12568ab9eaeb9ba75c428b34218451d84875acfed371c9"), looks := true }, kinds := [], alts := [], laidByText := true, laidKinds := [.data, .data, .data], laidTests := true, laidLooks := .later }
def KindStaysCardSaid : Prop := Claim7.holds Tryd.pinned (.plain (OpenSpec.ofChange kindStaysSpec)) kindStaysCard

/-- THE SECOND FORM's CARD OF 'merlonlaw04.KindTells'. -/
def kindTellsUptoCard : Claim7 := { stood := { row := kindTellsUptoRow, standIns := [], harness := (true, "7d2da0cd788fc2cd4c12568ab9eaeb9ba75c428b34218451d84875acfed371c9"), looks := true }, kinds := [], alts := [], laidByText := true, laidKinds := [.data, .data, .data], laidTests := true, laidLooks := .later }
def KindTellsUptoCardSaid : Prop := Claim7.holds Tryd.pinned (.plain (OpenSpec.upto kindTellsSpec)) kindTellsUptoCard

/-- THE SECOND FORM's CARD OF 'merlonlaw04.KindSame'. -/
def kindSameUptoCard : Claim7 := { stood := { row := kindSameUptoRow, standIns := [], harness := (true, "7d2da0cd788fc2cd4c12568ab9eaeb9ba75c428b34218451d84875acfed371c9"), looks := true }, kinds := [], alts := [], laidByText := true, laidKinds := [.data, .data, .data], laidTests := true, laidLooks := .later }
def KindSameUptoCardSaid : Prop := Claim7.holds Tryd.pinned (.plain (OpenSpec.upto kindSameSpec)) kindSameUptoCard

/-- THE SECOND FORM's CARD OF 'merlonlaw04.KindStays'. -/
def kindStaysUptoCard : Claim7 := { stood := { row := kindStaysUptoRow, standIns := [], harness := (true, "7d2da0cd788fc2cd4c12568ab9eaeb9ba75c428b34218451d84875acfed371c9"), looks := true }, kinds := [], alts := [], laidByText := true, laidKinds := [.data, .data, .data], laidTests := true, laidLooks := .later }
def KindStaysUptoCardSaid : Prop := Claim7.holds Tryd.pinned (.plain (OpenSpec.upto kindStaysSpec)) kindStaysUptoCard
end Rows
end Go.Proofs.YtalpmjmifcofeaaDoor
