/-
  DERIVED. GIVEN WITH THE SEED: THE CARDS: each row of YtjeldfipipkfiaaGreatDoorRows.lean that lists a variable, with what it lists TIED to the program's text (the seventh form; the later family's looks); each row that meets fmt, with fmt's text TOLD by the authors' own Lean function (tested against real Go, not proved from fmt's source: count such statements apart). THE CARD IS WHAT COUNTS. Prove the row's statement (the work); the ties are given (YtjeldfipipkfiaaGreatDoorTie.lean); close each card by the builder's one call (the guide's Derived/Test/ToyasCard.lean, 'card_holds'). Laid BY PROGRAM, IN A SANDBOX (cutbox-door.mjs). By AI agents, Wed Nov 11 2026. No macro, syntax, notation, axiom, sorry.
-/
import Derived.Test.YtjeldfipipkfiaaGreatDoorRows
import GoSem.ClaimSeven
namespace Go.Proofs.YtjeldfipipkfiaaGreatDoor
namespace Rows

/-- THE TIED CARD OF 'merlonlaw07.ScopeChecks'. -/
def scopeChecksCard : Claim7 := { stood := { row := scopeChecksRow, standIns := [], harness := (true, "dd42033eafca2fc89d821c41d4af827107a4416ba6e4c7b24a85d0ba4ff4a4b8"), looks := true }, kinds := [], alts := [], laidByText := true, laidKinds := [.handle], laidTests := true, laidLooks := .later }
def ScopeChecksCardSaid : Prop := Claim7.holds Tryz.pinned (.plain (OpenSpec.ofChange scopeChecksSpec)) scopeChecksCard

/-- THE TIED CARD OF 'merlonlaw07.ScopeTurns'. -/
def scopeTurnsCard : Claim7 := { stood := { row := scopeTurnsRow, standIns := [], harness := (true, "dd42033eafca2fc89d821c41d4af827107a4416ba6e4c7b24a85d0ba4ff4a4b8"), looks := true }, kinds := [], alts := [], laidByText := true, laidKinds := [.handle], laidTests := true, laidLooks := .later }
def ScopeTurnsCardSaid : Prop := Claim7.holds Tryz.pinned (.plain (OpenSpec.ofChange scopeTurnsSpec)) scopeTurnsCard

/-- THE TIED CARD OF 'merlonlaw07.ScopeLess'. -/
def scopeLessCard : Claim7 := { stood := { row := scopeLessRow, standIns := [], harness := (true, "dd42033eafca2fc89d821c41d4af827107a4416ba6e4c7b24a85d0ba4ff4a4b8"), looks := true }, kinds := [], alts := [], laidByText := true, laidKinds := [.handle], laidTests := true, laidLooks := .later }
def ScopeLessCardSaid : Prop := Claim7.holds Tryz.pinned (.plain (OpenSpec.ofChange scopeLessSpec)) scopeLessCard

/-- THE TIED CARD OF 'merlonlaw08.ExpandTells'. -/
def expandTellsCard : Claim7 := { stood := { row := expandTellsRow, standIns := [], harness := (true, "dd42033eafca2fc89d821c41d4af827107a4416ba6e4c7b24a85d0ba4ff4a4b8"), looks := true }, kinds := [], alts := [], laidByText := true, laidKinds := [.data, .data, .data], laidTests := true, laidLooks := .later }
def ExpandTellsCardSaid : Prop := Claim7.holds Tryz.pinned (.plain (OpenSpec.ofChange expandTellsSpec)) expandTellsCard

/-- THE TIED CARD OF 'merlonlaw08.ExpandPlain'. -/
def expandPlainCard : Claim7 := { stood := { row := expandPlainRow, standIns := [], harness := (true, "dd42033eafca2fc89d821c41d4af827107a4416ba6e4c7b24a85d0ba4ff4a4b8"), looks := true }, kinds := [], alts := [], laidByText := true, laidKinds := [.data, .data, .data], laidTests := true, laidLooks := .later }
def ExpandPlainCardSaid : Prop := Claim7.holds Tryz.pinned (.plain (OpenSpec.ofChange expandPlainSpec)) expandPlainCard

/-- THE TIED CARD OF 'merlonlaw08.ExpandParts'. -/
def expandPartsCard : Claim7 := { stood := { row := expandPartsRow, standIns := [], harness := (true, "dd42033eafca2fc89d821c41d4af827107a4416ba6e4c7b24a85d0ba4ff4a4b8"), looks := true }, kinds := [], alts := [], laidByText := true, laidKinds := [.data, .data, .data], laidTests := true, laidLooks := .later }
def ExpandPartsCardSaid : Prop := Claim7.holds Tryz.pinned (.plain (OpenSpec.ofChange expandPartsSpec)) expandPartsCard

/-- THE TIED CARD OF 'merlonlaw10.IfaceBuilds'. -/
def ifaceBuildsCard : Claim7 := { stood := { row := ifaceBuildsRow, standIns := [], harness := (true, "dd42033eafca2fc89d821c41d4af827107a4416ba6e4c7b24a85d0ba4ff4a4b8"), looks := true }, kinds := [], alts := [], laidByText := true, laidKinds := [.handle], laidTests := true, laidLooks := .later }
def IfaceBuildsCardSaid : Prop := Claim7.holds Tryz.pinned (.plain (OpenSpec.ofChange ifaceBuildsSpec)) ifaceBuildsCard

/-- THE TIED CARD OF 'merlonlaw13.WitnessExact'. -/
def witnessExactCard : Claim7 := { stood := { row := witnessExactRow, standIns := [], harness := (true, "dd42033eafca2fc89d821c41d4af827107a4416ba6e4c7b24a85d0ba4ff4a4b8"), looks := true }, kinds := [], alts := [], laidByText := true, laidKinds := [.data, .data, .data], laidTests := true, laidLooks := .later }
def WitnessExactCardSaid : Prop := Claim7.holds Tryz.pinned (.plain (OpenSpec.ofChange witnessExactSpec)) witnessExactCard

/-- THE TIED CARD OF 'merlonlaw13.WitnessAlike'. -/
def witnessAlikeCard : Claim7 := { stood := { row := witnessAlikeRow, standIns := [], harness := (true, "dd42033eafca2fc89d821c41d4af827107a4416ba6e4c7b24a85d0ba4ff4a4b8"), looks := true }, kinds := [], alts := [], laidByText := true, laidKinds := [.data, .data, .data], laidTests := true, laidLooks := .later }
def WitnessAlikeCardSaid : Prop := Claim7.holds Tryz.pinned (.plain (OpenSpec.ofChange witnessAlikeSpec)) witnessAlikeCard

/-- THE SECOND FORM's CARD OF 'merlonlaw07.ScopeChecks'. -/
def scopeChecksUptoCard : Claim7 := { stood := { row := scopeChecksUptoRow, standIns := [], harness := (true, "dd42033eafca2fc89d821c41d4af827107a4416ba6e4c7b24a85d0ba4ff4a4b8"), looks := true }, kinds := [], alts := [], laidByText := true, laidKinds := [.handle], laidTests := true, laidLooks := .later }
def ScopeChecksUptoCardSaid : Prop := Claim7.holds Tryz.pinned (.plain (OpenSpec.upto scopeChecksSpec)) scopeChecksUptoCard

/-- THE SECOND FORM's CARD OF 'merlonlaw07.ScopeTurns'. -/
def scopeTurnsUptoCard : Claim7 := { stood := { row := scopeTurnsUptoRow, standIns := [], harness := (true, "dd42033eafca2fc89d821c41d4af827107a4416ba6e4c7b24a85d0ba4ff4a4b8"), looks := true }, kinds := [], alts := [], laidByText := true, laidKinds := [.handle], laidTests := true, laidLooks := .later }
def ScopeTurnsUptoCardSaid : Prop := Claim7.holds Tryz.pinned (.plain (OpenSpec.upto scopeTurnsSpec)) scopeTurnsUptoCard

/-- THE SECOND FORM's CARD OF 'merlonlaw07.ScopeLess'. -/
def scopeLessUptoCard : Claim7 := { stood := { row := scopeLessUptoRow, standIns := [], harness := (true, "dd42033eafca2fc89d821c41d4af827107a4416ba6e4c7b24a85d0ba4ff4a4b8"), looks := true }, kinds := [], alts := [], laidByText := true, laidKinds := [.handle], laidTests := true, laidLooks := .later }
def ScopeLessUptoCardSaid : Prop := Claim7.holds Tryz.pinned (.plain (OpenSpec.upto scopeLessSpec)) scopeLessUptoCard

/-- THE SECOND FORM's CARD OF 'merlonlaw08.ExpandTells'. -/
def expandTellsUptoCard : Claim7 := { stood := { row := expandTellsUptoRow, standIns := [], harness := (true, "dd42033eafca2fc89d821c41d4af827107a4416ba6e4c7b24a85d0ba4ff4a4b8"), looks := true }, kinds := [], alts := [], laidByText := true, laidKinds := [.data, .data, .data], laidTests := true, laidLooks := .later }
def ExpandTellsUptoCardSaid : Prop := Claim7.holds Tryz.pinned (.plain (OpenSpec.upto expandTellsSpec)) expandTellsUptoCard

/-- THE SECOND FORM's CARD OF 'merlonlaw08.ExpandPlain'. -/
def expandPlainUptoCard : Claim7 := { stood := { row := expandPlainUptoRow, standIns := [], harness := (true, "dd42033eafca2fc89d821c41d4af827107a4416ba6e4c7b24a85d0ba4ff4a4b8"), looks := true }, kinds := [], alts := [], laidByText := true, laidKinds := [.data, .data, .data], laidTests := true, laidLooks := .later }
def ExpandPlainUptoCardSaid : Prop := Claim7.holds Tryz.pinned (.plain (OpenSpec.upto expandPlainSpec)) expandPlainUptoCard

/-- THE SECOND FORM's CARD OF 'merlonlaw08.ExpandParts'. -/
def expandPartsUptoCard : Claim7 := { stood := { row := expandPartsUptoRow, standIns := [], harness := (true, "dd42033eafca2fc89d821c41d4af827107a4416ba6e4c7b24a85d0ba4ff4a4b8"), looks := true }, kinds := [], alts := [], laidByText := true, laidKinds := [.data, .data, .data], laidTests := true, laidLooks := .later }
def ExpandPartsUptoCardSaid : Prop := Claim7.holds Tryz.pinned (.plain (OpenSpec.upto expandPartsSpec)) expandPartsUptoCard

/-- THE SECOND FORM's CARD OF 'merlonlaw10.IfaceBuilds'. -/
def ifaceBuildsUptoCard : Claim7 := { stood := { row := ifaceBuildsUptoRow, standIns := [], harness := (true, "dd42033eafca2fc89d821c41d4af827107a4416ba6e4c7b24a85d0ba4ff4a4b8"), looks := true }, kinds := [], alts := [], laidByText := true, laidKinds := [.handle], laidTests := true, laidLooks := .later }
def IfaceBuildsUptoCardSaid : Prop := Claim7.holds Tryz.pinned (.plain (OpenSpec.upto ifaceBuildsSpec)) ifaceBuildsUptoCard

/-- THE SECOND FORM's CARD OF 'merlonlaw13.WitnessExact'. -/
def witnessExactUptoCard : Claim7 := { stood := { row := witnessExactUptoRow, standIns := [], harness := (true, "dd42033eafca2fc89d821c41d4af827107a4416ba6e4c7b24a85d0ba4ff4a4b8"), looks := true }, kinds := [], alts := [], laidByText := true, laidKinds := [.data, .data, .data], laidTests := true, laidLooks := .later }
def WitnessExactUptoCardSaid : Prop := Claim7.holds Tryz.pinned (.plain (OpenSpec.upto witnessExactSpec)) witnessExactUptoCard

/-- THE SECOND FORM's CARD OF 'merlonlaw13.WitnessAlike'. -/
def witnessAlikeUptoCard : Claim7 := { stood := { row := witnessAlikeUptoRow, standIns := [], harness := (true, "dd42033eafca2fc89d821c41d4af827107a4416ba6e4c7b24a85d0ba4ff4a4b8"), looks := true }, kinds := [], alts := [], laidByText := true, laidKinds := [.data, .data, .data], laidTests := true, laidLooks := .later }
def WitnessAlikeUptoCardSaid : Prop := Claim7.holds Tryz.pinned (.plain (OpenSpec.upto witnessAlikeSpec)) witnessAlikeUptoCard
end Rows
end Go.Proofs.YtjeldfipipkfiaaGreatDoor
