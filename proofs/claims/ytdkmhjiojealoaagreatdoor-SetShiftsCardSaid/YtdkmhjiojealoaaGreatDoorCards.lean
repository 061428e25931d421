/-
  DERIVED. GIVEN WITH THE SEED: THE CARDS: each row of YtdkmhjiojealoaaGreatDoorRows.lean that lists a variable, with what it lists TIED to the program's text (the seventh form; the later family's looks); each row that meets fmt, with fmt's text TOLD by the authors' own Lean function (tested against real Go, not proved from fmt's source: count such statements apart). THE CARD IS WHAT COUNTS. Prove the row's statement (the work); the ties are given (YtdkmhjiojealoaaGreatDoorTie.lean); close each card by the builder's one call (the guide's Derived/Test/ToyasCard.lean, 'card_holds'). Laid BY PROGRAM, IN A SANDBOX (cutbox-door.mjs). By AI agents, Wed Nov 11 2026. No macro, syntax, notation, axiom, sorry.
-/
import Derived.Test.YtdkmhjiojealoaaGreatDoorRows
import GoSem.ClaimSeven
namespace Go.Proofs.YtdkmhjiojealoaaGreatDoor
namespace Rows

/-- THE TIED CARD OF 'turnstonelaw17.SettleShifts'. -/
def settleShiftsCard : Claim7 := { stood := { row := settleShiftsRow, standIns := [], harness := (true, "79d21cbdc2791959dd4d52e9fad6af19d98ffdfd4c4a17d4d39d985648ea231d"), looks := false }, kinds := [], alts := [], laidByText := true, laidKinds := [.data, .data, .data], laidTests := true, laidLooks := .later }
def SettleShiftsCardSaid : Prop := Claim7.holds Tryz.pinned (.plain (OpenSpec.ofChange settleShiftsSpec)) settleShiftsCard

/-- THE TIED CARD OF 'turnstonelaw16.SetShifts'. -/
def setShiftsCard : Claim7 := { stood := { row := setShiftsRow, standIns := [], harness := (true, "79d21cbdc2791959dd4d52e9fad6af19d98ffdfd4c4a17d4d39d985648ea231d"), looks := false }, kinds := [], alts := [], laidByText := true, laidKinds := [.data, .data, .data], laidTests := true, laidLooks := .later }
def SetShiftsCardSaid : Prop := Claim7.holds Tryz.pinned (.plain (OpenSpec.ofChange setShiftsSpec)) setShiftsCard

/-- THE SECOND FORM's CARD OF 'turnstonelaw17.SettleShifts'. -/
def settleShiftsUptoCard : Claim7 := { stood := { row := settleShiftsUptoRow, standIns := [], harness := (true, "79d21cbdc2791959dd4d52e9fad6af19d98ffdfd4c4a17d4d39d985648ea231d"), looks := false }, kinds := [], alts := [], laidByText := true, laidKinds := [.data, .data, .data], laidTests := true, laidLooks := .later }
def SettleShiftsUptoCardSaid : Prop := Claim7.holds Tryz.pinned (.plain (OpenSpec.upto settleShiftsSpec)) settleShiftsUptoCard

/-- THE SECOND FORM's CARD OF 'turnstonelaw16.SetShifts'. -/
def setShiftsUptoCard : Claim7 := { stood := { row := setShiftsUptoRow, standIns := [], harness := (true, "79d21cbdc2791959dd4d52e9fad6af19d98ffdfd4c4a17d4d39d985648ea231d"), looks := false }, kinds := [], alts := [], laidByText := true, laidKinds := [.data, .data, .data], laidTests := true, laidLooks := .later }
def SetShiftsUptoCardSaid : Prop := Claim7.holds Tryz.pinned (.plain (OpenSpec.upto setShiftsSpec)) setShiftsUptoCard
end Rows
end Go.Proofs.YtdkmhjiojealoaaGreatDoor
