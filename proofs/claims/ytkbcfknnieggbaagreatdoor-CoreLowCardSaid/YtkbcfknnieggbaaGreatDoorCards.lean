/-
  DERIVED. GIVEN WITH THE SEED: THE CARDS: each row of YtkbcfknnieggbaaGreatDoorRows.lean that lists a variable, with what it lists TIED to the program's text (the seventh form; the later family's looks); each row that meets fmt, with fmt's text TOLD by the authors' own Lean function (tested against real Go, not proved from fmt's source: count such statements apart). THE CARD IS WHAT COUNTS. Prove the row's statement (the work); the ties are given (YtkbcfknnieggbaaGreatDoorTie.lean); close each card by the builder's one call (the guide's Derived/Test/ToyasCard.lean, 'card_holds'). Laid BY PROGRAM, IN A SANDBOX (cutbox-door.mjs). By AI agents, Wed Nov 11 2026. No macro, syntax, notation, axiom, sorry.
-/
import Derived.Test.YtkbcfknnieggbaaGreatDoorRows
import GoSem.ClaimSeven
namespace Go.Proofs.YtkbcfknnieggbaaGreatDoor
namespace Rows

/-- THE TIED CARD OF 'turnstonelaw17.SettleRuns'. -/
def settleRunsCard : Claim7 := { stood := { row := settleRunsRow, standIns := [], harness := (true, "450cac1949da65e5f42a17c8a617f26b4215a124b1969373a8182918bce379f0"), looks := true }, kinds := [], alts := [], laidByText := true, laidKinds := [.data, .data, .data], laidTests := true, laidLooks := .later }
def SettleRunsCardSaid : Prop := Claim7.holds Tryz.pinned (.plain (OpenSpec.ofChange settleRunsSpec)) settleRunsCard

/-- THE TIED CARD OF 'turnstonelaw18.CoreRequests'. -/
def coreRequestsCard : Claim7 := { stood := { row := coreRequestsRow, standIns := [], harness := (true, "450cac1949da65e5f42a17c8a617f26b4215a124b1969373a8182918bce379f0"), looks := true }, kinds := [], alts := [], laidByText := true, laidKinds := [.data, .data, .data], laidTests := true, laidLooks := .later }
def CoreRequestsCardSaid : Prop := Claim7.holds Tryz.pinned (.plain (OpenSpec.ofChange coreRequestsSpec)) coreRequestsCard

/-- THE TIED CARD OF 'turnstonelaw18.CoreWorks'. -/
def coreWorksCard : Claim7 := { stood := { row := coreWorksRow, standIns := [], harness := (true, "450cac1949da65e5f42a17c8a617f26b4215a124b1969373a8182918bce379f0"), looks := true }, kinds := [], alts := [], laidByText := true, laidKinds := [.data, .data, .data], laidTests := true, laidLooks := .later }
def CoreWorksCardSaid : Prop := Claim7.holds Tryz.pinned (.plain (OpenSpec.ofChange coreWorksSpec)) coreWorksCard

/-- THE TIED CARD OF 'turnstonelaw18.CoreLow'. -/
def coreLowCard : Claim7 := { stood := { row := coreLowRow, standIns := [], harness := (true, "450cac1949da65e5f42a17c8a617f26b4215a124b1969373a8182918bce379f0"), looks := true }, kinds := [], alts := [], laidByText := true, laidKinds := [.data, .data, .data], laidTests := true, laidLooks := .later }
def CoreLowCardSaid : Prop := Claim7.holds Tryz.pinned (.plain (OpenSpec.ofChange coreLowSpec)) coreLowCard

/-- THE TIED CARD OF 'turnstonelaw18.CoreHigh'. -/
def coreHighCard : Claim7 := { stood := { row := coreHighRow, standIns := [], harness := (true, "450cac1949da65e5f42a17c8a617f26b4215a124b1969373a8182918bce379f0"), looks := true }, kinds := [], alts := [], laidByText := true, laidKinds := [.data, .data, .data], laidTests := true, laidLooks := .later }
def CoreHighCardSaid : Prop := Claim7.holds Tryz.pinned (.plain (OpenSpec.ofChange coreHighSpec)) coreHighCard

/-- THE TIED CARD OF 'turnstonelaw18.CoreRefuses'. -/
def coreRefusesCard : Claim7 := { stood := { row := coreRefusesRow, standIns := [], harness := (true, "450cac1949da65e5f42a17c8a617f26b4215a124b1969373a8182918bce379f0"), looks := true }, kinds := [], alts := [], laidByText := true, laidKinds := [.data, .data, .data], laidTests := true, laidLooks := .later }
def CoreRefusesCardSaid : Prop := Claim7.holds Tryz.pinned (.plain (OpenSpec.ofChange coreRefusesSpec)) coreRefusesCard

/-- THE TIED CARD OF 'turnstonelaw18.CoreClones'. -/
def coreClonesCard : Claim7 := { stood := { row := coreClonesRow, standIns := [], harness := (true, "450cac1949da65e5f42a17c8a617f26b4215a124b1969373a8182918bce379f0"), looks := true }, kinds := [], alts := [], laidByText := true, laidKinds := [.data, .data, .data], laidTests := true, laidLooks := .later }
def CoreClonesCardSaid : Prop := Claim7.holds Tryz.pinned (.plain (OpenSpec.ofChange coreClonesSpec)) coreClonesCard

/-- THE TIED CARD OF 'turnstonelaw18.CoreShifts'. -/
def coreShiftsCard : Claim7 := { stood := { row := coreShiftsRow, standIns := [], harness := (true, "450cac1949da65e5f42a17c8a617f26b4215a124b1969373a8182918bce379f0"), looks := true }, kinds := [], alts := [], laidByText := true, laidKinds := [.data, .data, .data], laidTests := true, laidLooks := .later }
def CoreShiftsCardSaid : Prop := Claim7.holds Tryz.pinned (.plain (OpenSpec.ofChange coreShiftsSpec)) coreShiftsCard

/-- THE SECOND FORM's CARD OF 'turnstonelaw17.SettleRuns'. -/
def settleRunsUptoCard : Claim7 := { stood := { row := settleRunsUptoRow, standIns := [], harness := (true, "450cac1949da65e5f42a17c8a617f26b4215a124b1969373a8182918bce379f0"), looks := true }, kinds := [], alts := [], laidByText := true, laidKinds := [.data, .data, .data], laidTests := true, laidLooks := .later }
def SettleRunsUptoCardSaid : Prop := Claim7.holds Tryz.pinned (.plain (OpenSpec.upto settleRunsSpec)) settleRunsUptoCard

/-- THE SECOND FORM's CARD OF 'turnstonelaw18.CoreRequests'. -/
def coreRequestsUptoCard : Claim7 := { stood := { row := coreRequestsUptoRow, standIns := [], harness := (true, "450cac1949da65e5f42a17c8a617f26b4215a124b1969373a8182918bce379f0"), looks := true }, kinds := [], alts := [], laidByText := true, laidKinds := [.data, .data, .data], laidTests := true, laidLooks := .later }
def CoreRequestsUptoCardSaid : Prop := Claim7.holds Tryz.pinned (.plain (OpenSpec.upto coreRequestsSpec)) coreRequestsUptoCard

/-- THE SECOND FORM's CARD OF 'turnstonelaw18.CoreWorks'. -/
def coreWorksUptoCard : Claim7 := { stood := { row := coreWorksUptoRow, standIns := [], harness := (true, "450cac1949da65e5f42a17c8a617f26b4215a124b1969373a8182918bce379f0"), looks := true }, kinds := [], alts := [], laidByText := true, laidKinds := [.data, .data, .data], laidTests := true, laidLooks := .later }
def CoreWorksUptoCardSaid : Prop := Claim7.holds Tryz.pinned (.plain (OpenSpec.upto coreWorksSpec)) coreWorksUptoCard

/-- THE SECOND FORM's CARD OF 'turnstonelaw18.CoreLow'. -/
def coreLowUptoCard : Claim7 := { stood := { row := coreLowUptoRow, standIns := [], harness := (true, "450cac1949da65e5f42a17c8a617f26b4215a124b1969373a8182918bce379f0"), looks := true }, kinds := [], alts := [], laidByText := true, laidKinds := [.data, .data, .data], laidTests := true, laidLooks := .later }
def CoreLowUptoCardSaid : Prop := Claim7.holds Tryz.pinned (.plain (OpenSpec.upto coreLowSpec)) coreLowUptoCard

/-- THE SECOND FORM's CARD OF 'turnstonelaw18.CoreHigh'. -/
def coreHighUptoCard : Claim7 := { stood := { row := coreHighUptoRow, standIns := [], harness := (true, "450cac1949da65e5f42a17c8a617f26b4215a124b1969373a8182918bce379f0"), looks := true }, kinds := [], alts := [], laidByText := true, laidKinds := [.data, .data, .data], laidTests := true, laidLooks := .later }
def CoreHighUptoCardSaid : Prop := Claim7.holds Tryz.pinned (.plain (OpenSpec.upto coreHighSpec)) coreHighUptoCard

/-- THE SECOND FORM's CARD OF 'turnstonelaw18.CoreRefuses'. -/
def coreRefusesUptoCard : Claim7 := { stood := { row := coreRefusesUptoRow, standIns := [], harness := (true, "450cac1949da65e5f42a17c8a617f26b4215a124b1969373a8182918bce379f0"), looks := true }, kinds := [], alts := [], laidByText := true, laidKinds := [.data, .data, .data], laidTests := true, laidLooks := .later }
def CoreRefusesUptoCardSaid : Prop := Claim7.holds Tryz.pinned (.plain (OpenSpec.upto coreRefusesSpec)) coreRefusesUptoCard

/-- THE SECOND FORM's CARD OF 'turnstonelaw18.CoreClones'. -/
def coreClonesUptoCard : Claim7 := { stood := { row := coreClonesUptoRow, standIns := [], harness := (true, "450cac1949da65e5f42a17c8a617f26b4215a124b1969373a8182918bce379f0"), looks := true }, kinds := [], alts := [], laidByText := true, laidKinds := [.data, .data, .data], laidTests := true, laidLooks := .later }
def CoreClonesUptoCardSaid : Prop := Claim7.holds Tryz.pinned (.plain (OpenSpec.upto coreClonesSpec)) coreClonesUptoCard

/-- THE SECOND FORM's CARD OF 'turnstonelaw18.CoreShifts'. -/
def coreShiftsUptoCard : Claim7 := { stood := { row := coreShiftsUptoRow, standIns := [], harness := (true, "450cac1949da65e5f42a17c8a617f26b4215a124b1969373a8182918bce379f0"), looks := true }, kinds := [], alts := [], laidByText := true, laidKinds := [.data, .data, .data], laidTests := true, laidLooks := .later }
def CoreShiftsUptoCardSaid : Prop := Claim7.holds Tryz.pinned (.plain (OpenSpec.upto coreShiftsSpec)) coreShiftsUptoCard
end Rows
end Go.Proofs.YtkbcfknnieggbaaGreatDoor
