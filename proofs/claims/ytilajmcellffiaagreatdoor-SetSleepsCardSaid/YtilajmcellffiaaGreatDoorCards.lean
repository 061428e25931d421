/-
  DERIVED. GIVEN WITH THE SEED: THE CARDS: each row of YtilajmcellffiaaGreatDoorRows.lean that lists a variable, with what it lists TIED to the program's text (the seventh form; the later family's looks); each row that meets fmt, with fmt's text TOLD by the authors' own Lean function (tested against real Go, not proved from fmt's source: count such statements apart). THE CARD IS WHAT COUNTS. Prove the row's statement (the work); the ties are given (YtilajmcellffiaaGreatDoorTie.lean); close each card by the builder's one call (the guide's Derived/Test/ToyasCard.lean, 'card_holds'). Laid BY PROGRAM, IN A SANDBOX (cutbox-door.mjs). By AI agents, Wed Nov 11 2026. No macro, syntax, notation, axiom, sorry.
-/
import Derived.Test.YtilajmcellffiaaGreatDoorRows
import GoSem.ClaimSeven
namespace Go.Proofs.YtilajmcellffiaaGreatDoor
namespace Rows

/-- THE TIED CARD OF 'turnstonelaw16.SetBack'. -/
def setBackCard : Claim7 := { stood := { row := setBackRow, standIns := [], harness := (true, "e3ccc838229585036c6a4a262e2461179f79beb70e88e844a46bccf6c489251f"), looks := true }, kinds := [], alts := [], laidByText := true, laidKinds := [.data, .data, .data], laidTests := true, laidLooks := .later }
def SetBackCardSaid : Prop := Claim7.holds Tryz.pinned (.plain (OpenSpec.ofChange setBackSpec)) setBackCard

/-- THE TIED CARD OF 'turnstonelaw17.SettleNone'. -/
def settleNoneCard : Claim7 := { stood := { row := settleNoneRow, standIns := [], harness := (true, "e3ccc838229585036c6a4a262e2461179f79beb70e88e844a46bccf6c489251f"), looks := true }, kinds := [], alts := [], laidByText := true, laidKinds := [.data, .data, .data], laidTests := true, laidLooks := .later }
def SettleNoneCardSaid : Prop := Claim7.holds Tryz.pinned (.plain (OpenSpec.ofChange settleNoneSpec)) settleNoneCard

/-- THE TIED CARD OF 'turnstonelaw16.SetSleeps'. -/
def setSleepsCard : Claim7 := { stood := { row := setSleepsRow, standIns := [], harness := (true, "e3ccc838229585036c6a4a262e2461179f79beb70e88e844a46bccf6c489251f"), looks := true }, kinds := [], alts := [], laidByText := true, laidKinds := [.data, .data, .data], laidTests := true, laidLooks := .later }
def SetSleepsCardSaid : Prop := Claim7.holds Tryz.pinned (.plain (OpenSpec.ofChange setSleepsSpec)) setSleepsCard

/-- THE TIED CARD OF 'turnstonelaw19.LimitsAsk'. -/
def limitsAskCard : Claim7 := { stood := { row := limitsAskRow, standIns := [], harness := (true, "e3ccc838229585036c6a4a262e2461179f79beb70e88e844a46bccf6c489251f"), looks := true }, kinds := [], alts := [], laidByText := true, laidKinds := [.data, .data, .data], laidTests := true, laidLooks := .later }
def LimitsAskCardSaid : Prop := Claim7.holds Tryz.pinned (.plain (OpenSpec.ofChange limitsAskSpec)) limitsAskCard

/-- THE TIED CARD OF 'turnstonelaw20.TableLeast'. -/
def tableLeastCard : Claim7 := { stood := { row := tableLeastRow, standIns := [], harness := (true, "e3ccc838229585036c6a4a262e2461179f79beb70e88e844a46bccf6c489251f"), looks := true }, kinds := [], alts := [], laidByText := true, laidKinds := [.data, .data, .data], laidTests := true, laidLooks := .later }
def TableLeastCardSaid : Prop := Claim7.holds Tryz.pinned (.plain (OpenSpec.ofChange tableLeastSpec)) tableLeastCard

/-- THE TIED CARD OF 'turnstonelaw20.TableOnce'. -/
def tableOnceCard : Claim7 := { stood := { row := tableOnceRow, standIns := [], harness := (true, "e3ccc838229585036c6a4a262e2461179f79beb70e88e844a46bccf6c489251f"), looks := true }, kinds := [], alts := [], laidByText := true, laidKinds := [.data, .data, .data], laidTests := true, laidLooks := .later }
def TableOnceCardSaid : Prop := Claim7.holds Tryz.pinned (.plain (OpenSpec.ofChange tableOnceSpec)) tableOnceCard

/-- THE TIED CARD OF 'turnstonelaw20.TablePlays'. -/
def tablePlaysCard : Claim7 := { stood := { row := tablePlaysRow, standIns := [], harness := (true, "e3ccc838229585036c6a4a262e2461179f79beb70e88e844a46bccf6c489251f"), looks := true }, kinds := [], alts := [], laidByText := true, laidKinds := [.data, .data, .data], laidTests := true, laidLooks := .later }
def TablePlaysCardSaid : Prop := Claim7.holds Tryz.pinned (.plain (OpenSpec.ofChange tablePlaysSpec)) tablePlaysCard

/-- THE TIED CARD OF 'turnstonelaw20.TableNone'. -/
def tableNoneCard : Claim7 := { stood := { row := tableNoneRow, standIns := [], harness := (true, "e3ccc838229585036c6a4a262e2461179f79beb70e88e844a46bccf6c489251f"), looks := true }, kinds := [], alts := [], laidByText := true, laidKinds := [.data, .data, .data], laidTests := true, laidLooks := .later }
def TableNoneCardSaid : Prop := Claim7.holds Tryz.pinned (.plain (OpenSpec.ofChange tableNoneSpec)) tableNoneCard

/-- THE TIED CARD OF 'turnstonelaw20.TableSets'. -/
def tableSetsCard : Claim7 := { stood := { row := tableSetsRow, standIns := [], harness := (true, "e3ccc838229585036c6a4a262e2461179f79beb70e88e844a46bccf6c489251f"), looks := true }, kinds := [], alts := [], laidByText := true, laidKinds := [.data, .data, .data], laidTests := true, laidLooks := .later }
def TableSetsCardSaid : Prop := Claim7.holds Tryz.pinned (.plain (OpenSpec.ofChange tableSetsSpec)) tableSetsCard

/-- THE SECOND FORM's CARD OF 'turnstonelaw16.SetBack'. -/
def setBackUptoCard : Claim7 := { stood := { row := setBackUptoRow, standIns := [], harness := (true, "e3ccc838229585036c6a4a262e2461179f79beb70e88e844a46bccf6c489251f"), looks := true }, kinds := [], alts := [], laidByText := true, laidKinds := [.data, .data, .data], laidTests := true, laidLooks := .later }
def SetBackUptoCardSaid : Prop := Claim7.holds Tryz.pinned (.plain (OpenSpec.upto setBackSpec)) setBackUptoCard

/-- THE SECOND FORM's CARD OF 'turnstonelaw17.SettleNone'. -/
def settleNoneUptoCard : Claim7 := { stood := { row := settleNoneUptoRow, standIns := [], harness := (true, "e3ccc838229585036c6a4a262e2461179f79beb70e88e844a46bccf6c489251f"), looks := true }, kinds := [], alts := [], laidByText := true, laidKinds := [.data, .data, .data], laidTests := true, laidLooks := .later }
def SettleNoneUptoCardSaid : Prop := Claim7.holds Tryz.pinned (.plain (OpenSpec.upto settleNoneSpec)) settleNoneUptoCard

/-- THE SECOND FORM's CARD OF 'turnstonelaw16.SetSleeps'. -/
def setSleepsUptoCard : Claim7 := { stood := { row := setSleepsUptoRow, standIns := [], harness := (true, "e3ccc838229585036c6a4a262e2461179f79beb70e88e844a46bccf6c489251f"), looks := true }, kinds := [], alts := [], laidByText := true, laidKinds := [.data, .data, .data], laidTests := true, laidLooks := .later }
def SetSleepsUptoCardSaid : Prop := Claim7.holds Tryz.pinned (.plain (OpenSpec.upto setSleepsSpec)) setSleepsUptoCard

/-- THE SECOND FORM's CARD OF 'turnstonelaw19.LimitsAsk'. -/
def limitsAskUptoCard : Claim7 := { stood := { row := limitsAskUptoRow, standIns := [], harness := (true, "e3ccc838229585036c6a4a262e2461179f79beb70e88e844a46bccf6c489251f"), looks := true }, kinds := [], alts := [], laidByText := true, laidKinds := [.data, .data, .data], laidTests := true, laidLooks := .later }
def LimitsAskUptoCardSaid : Prop := Claim7.holds Tryz.pinned (.plain (OpenSpec.upto limitsAskSpec)) limitsAskUptoCard

/-- THE SECOND FORM's CARD OF 'turnstonelaw20.TableLeast'. -/
def tableLeastUptoCard : Claim7 := { stood := { row := tableLeastUptoRow, standIns := [], harness := (true, "e3ccc838229585036c6a4a262e2461179f79beb70e88e844a46bccf6c489251f"), looks := true }, kinds := [], alts := [], laidByText := true, laidKinds := [.data, .data, .data], laidTests := true, laidLooks := .later }
def TableLeastUptoCardSaid : Prop := Claim7.holds Tryz.pinned (.plain (OpenSpec.upto tableLeastSpec)) tableLeastUptoCard

/-- THE SECOND FORM's CARD OF 'turnstonelaw20.TableOnce'. -/
def tableOnceUptoCard : Claim7 := { stood := { row := tableOnceUptoRow, standIns := [], harness := (true, "e3ccc838229585036c6a4a262e2461179f79beb70e88e844a46bccf6c489251f"), looks := true }, kinds := [], alts := [], laidByText := true, laidKinds := [.data, .data, .data], laidTests := true, laidLooks := .later }
def TableOnceUptoCardSaid : Prop := Claim7.holds Tryz.pinned (.plain (OpenSpec.upto tableOnceSpec)) tableOnceUptoCard

/-- THE SECOND FORM's CARD OF 'turnstonelaw20.TablePlays'. -/
def tablePlaysUptoCard : Claim7 := { stood := { row := tablePlaysUptoRow, standIns := [], harness := (true, "e3ccc838229585036c6a4a262e2461179f79beb70e88e844a46bccf6c489251f"), looks := true }, kinds := [], alts := [], laidByText := true, laidKinds := [.data, .data, .data], laidTests := true, laidLooks := .later }
def TablePlaysUptoCardSaid : Prop := Claim7.holds Tryz.pinned (.plain (OpenSpec.upto tablePlaysSpec)) tablePlaysUptoCard

/-- THE SECOND FORM's CARD OF 'turnstonelaw20.TableNone'. -/
def tableNoneUptoCard : Claim7 := { stood := { row := tableNoneUptoRow, standIns := [], harness := (true, "e3ccc838229585036c6a4a262e2461179f79beb70e88e844a46bccf6c489251f"), looks := true }, kinds := [], alts := [], laidByText := true, laidKinds := [.data, .data, .data], laidTests := true, laidLooks := .later }
def TableNoneUptoCardSaid : Prop := Claim7.holds Tryz.pinned (.plain (OpenSpec.upto tableNoneSpec)) tableNoneUptoCard

/-- THE SECOND FORM's CARD OF 'turnstonelaw20.TableSets'. -/
def tableSetsUptoCard : Claim7 := { stood := { row := tableSetsUptoRow, standIns := [], harness := (true, "e3ccc838229585036c6a4a262e2461179f79beb70e88e844a46bccf6c489251f"), looks := true }, kinds := [], alts := [], laidByText := true, laidKinds := [.data, .data, .data], laidTests := true, laidLooks := .later }
def TableSetsUptoCardSaid : Prop := Claim7.holds Tryz.pinned (.plain (OpenSpec.upto tableSetsSpec)) tableSetsUptoCard
end Rows
end Go.Proofs.YtilajmcellffiaaGreatDoor
