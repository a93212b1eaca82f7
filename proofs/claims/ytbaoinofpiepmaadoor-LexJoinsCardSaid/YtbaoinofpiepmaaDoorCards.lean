/-
  DERIVED. GIVEN WITH THE SEED: THE CARDS: each row of YtbaoinofpiepmaaDoorRows.lean that lists a variable, with what it lists TIED to the program's text (the seventh form; the later family's looks); each row that meets fmt, with fmt's text TOLD by the authors' own Lean function (tested against real Go, not proved from fmt's source: count such statements apart). THE CARD IS WHAT COUNTS. Prove the row's statement (the work); the ties are given (YtbaoinofpiepmaaDoorTie.lean); close each card by the builder's one call (the guide's Derived/Test/ToyasCard.lean, 'card_holds'). Laid BY PROGRAM, IN A SANDBOX (cutbox-door.mjs). By AI agents, Wed Nov 11 2026. No macro, syntax, notation, axiom, sorry.
-/
import Derived.Test.YtbaoinofpiepmaaDoorRows
import GoSem.ClaimSeven
namespace Go.Proofs.YtbaoinofpiepmaaDoor
namespace Rows

/-- THE TIED CARD OF 'merlonlaw03.LexTokens'. -/
def lexTokensCard : Claim7 := { stood := { row := lexTokensRow, standIns := [], harness := (true, "298ecd37a9324c493497ff90fd23479731e0fb051815f36fa0f72d78e8870fd8"), looks := true }, kinds := [], alts := [], laidByText := true, laidKinds := [.handle], laidTests := true, laidLooks := .later }
def LexTokensCardSaid : Prop := Claim7.holds Tryd.pinned (.plain (OpenSpec.ofChange lexTokensSpec)) lexTokensCard

/-- THE TIED CARD OF 'merlonlaw01.SemverOrders'. -/
def semverOrdersCard : Claim7 := { stood := { row := semverOrdersRow, standIns := [], harness := (true, "298ecd37a9324c493497ff90fd23479731e0fb051815f36fa0f72d78e8870fd8"), looks := true }, kinds := [], alts := [], laidByText := true, laidKinds := [.data, .pinned], laidTests := true, laidLooks := .later }
def SemverOrdersCardSaid : Prop := Claim7.holds Tryd.pinned (.plain (OpenSpec.ofChange semverOrdersSpec)) semverOrdersCard

/-- THE TIED CARD OF 'merlonlaw03.LexJoins'. -/
def lexJoinsCard : Claim7 := { stood := { row := lexJoinsRow, standIns := [], harness := (true, "298ecd37a9324c493497ff90fd23479731e0fb051815f36fa0f72d78e8870fd8"), looks := true }, kinds := [], alts := [], laidByText := true, laidKinds := [.handle], laidTests := true, laidLooks := .later }
def LexJoinsCardSaid : Prop := Claim7.holds Tryd.pinned (.plain (OpenSpec.ofChange lexJoinsSpec)) lexJoinsCard

/-- THE SECOND FORM's CARD OF 'merlonlaw03.LexTokens'. -/
def lexTokensUptoCard : Claim7 := { stood := { row := lexTokensUptoRow, standIns := [], harness := (true, "298ecd37a9324c493497ff90fd23479731e0fb051815f36fa0f72d78e8870fd8"), looks := true }, kinds := [], alts := [], laidByText := true, laidKinds := [.handle], laidTests := true, laidLooks := .later }
def LexTokensUptoCardSaid : Prop := Claim7.holds Tryd.pinned (.plain (OpenSpec.upto lexTokensSpec)) lexTokensUptoCard

/-- THE SECOND FORM's CARD OF 'merlonlaw01.SemverOrders'. -/
def semverOrdersUptoCard : Claim7 := { stood := { row := semverOrdersUptoRow, standIns := [], harness := (true, "298ecd37a9324c493497ff90fd23479731e0fb051815f36fa0f72d78e8870fd8"), looks := true }, kinds := [], alts := [], laidByText := true, laidKinds := [.data, .pinned], laidTests := true, laidLooks := .later }
def SemverOrdersUptoCardSaid : Prop := Claim7.holds Tryd.pinned (.plain (OpenSpec.upto semverOrdersSpec)) semverOrdersUptoCard

/-- THE SECOND FORM's CARD OF 'merlonlaw03.LexJoins'. -/
def lexJoinsUptoCard : Claim7 := { stood := { row := lexJoinsUptoRow, standIns := [], harness := (true, "298ecd37a9324c493497ff90fd23479731e0fb051815f36fa0f72d78e8870fd8"), looks := true }, kinds := [], alts := [], laidByText := true, laidKinds := [.handle], laidTests := true, laidLooks := .later }
def LexJoinsUptoCardSaid : Prop := Claim7.holds Tryd.pinned (.plain (OpenSpec.upto lexJoinsSpec)) lexJoinsUptoCard
end Rows
end Go.Proofs.YtbaoinofpiepmaaDoor
