/-
  DERIVED. GIVEN WITH THE SEED: THE CARDS: each row of YtalffooghioekaaGreatDoorRows.lean that lists a variable, with what it lists TIED to the program's text (the seventh form; the later family's looks); each row that meets fmt, with fmt's text TOLD by the authors' own Lean function (tested against real Go, not proved from fmt's source: count such statements apart). THE CARD IS WHAT COUNTS. Prove the row's statement (the work); the ties are given (YtalffooghioekaaGreatDoorTie.lean); close each card by the builder's one call (the guide's Derived/Test/ToyasCard.lean, 'card_holds'). Laid BY PROGRAM, IN A SANDBOX (cutbox-door.mjs). By AI agents, Wed Nov 11 2026. No macro, syntax, notation, axiom, sorry.
-/
import Derived.Test.YtalffooghioekaaGreatDoorRows
import GoSem.ClaimSeven
namespace Go.Proofs.YtalffooghioekaaGreatDoor
namespace Rows

/-- THE TIED CARD OF 'turnstonelaw21.SchedWorks'. -/
def schedWorksCard : Claim7 := { stood := { row := schedWorksRow, standIns := [], harness := (true, "c741f9a94baa5f856bf33fb1c0f420c9acdb56b9643e6e45be506b50c12d5367"), looks := true }, kinds := [], alts := [], laidByText := true, laidKinds := [.data, .data, .data], laidTests := true, laidLooks := .later }
def SchedWorksCardSaid : Prop := Claim7.holds Tryz.pinned (.plain (OpenSpec.ofChange schedWorksSpec)) schedWorksCard

/-- THE TIED CARD OF 'turnstonelaw21.SchedApart'. -/
def schedApartCard : Claim7 := { stood := { row := schedApartRow, standIns := [], harness := (true, "c741f9a94baa5f856bf33fb1c0f420c9acdb56b9643e6e45be506b50c12d5367"), looks := true }, kinds := [], alts := [], laidByText := true, laidKinds := [.data, .data, .data], laidTests := true, laidLooks := .later }
def SchedApartCardSaid : Prop := Claim7.holds Tryz.pinned (.plain (OpenSpec.ofChange schedApartSpec)) schedApartCard

/-- THE TIED CARD OF 'turnstonelaw21.SchedRefuses'. -/
def schedRefusesCard : Claim7 := { stood := { row := schedRefusesRow, standIns := [], harness := (true, "c741f9a94baa5f856bf33fb1c0f420c9acdb56b9643e6e45be506b50c12d5367"), looks := true }, kinds := [], alts := [], laidByText := true, laidKinds := [.data, .data, .data], laidTests := true, laidLooks := .later }
def SchedRefusesCardSaid : Prop := Claim7.holds Tryz.pinned (.plain (OpenSpec.ofChange schedRefusesSpec)) schedRefusesCard

/-- THE TIED CARD OF 'turnstonelaw21.SchedOrigins'. -/
def schedOriginsCard : Claim7 := { stood := { row := schedOriginsRow, standIns := [], harness := (true, "c741f9a94baa5f856bf33fb1c0f420c9acdb56b9643e6e45be506b50c12d5367"), looks := true }, kinds := [], alts := [], laidByText := true, laidKinds := [.data, .data, .data], laidTests := true, laidLooks := .later }
def SchedOriginsCardSaid : Prop := Claim7.holds Tryz.pinned (.plain (OpenSpec.ofChange schedOriginsSpec)) schedOriginsCard

/-- THE TIED CARD OF 'turnstonelaw21.SchedNone'. -/
def schedNoneCard : Claim7 := { stood := { row := schedNoneRow, standIns := [], harness := (true, "c741f9a94baa5f856bf33fb1c0f420c9acdb56b9643e6e45be506b50c12d5367"), looks := true }, kinds := [], alts := [], laidByText := true, laidKinds := [.data, .data, .data], laidTests := true, laidLooks := .later }
def SchedNoneCardSaid : Prop := Claim7.holds Tryz.pinned (.plain (OpenSpec.ofChange schedNoneSpec)) schedNoneCard

/-- THE TIED CARD OF 'turnstonetop.TopWorks'. -/
def topWorksCard : Claim7 := { stood := { row := topWorksRow, standIns := [], harness := (true, "c741f9a94baa5f856bf33fb1c0f420c9acdb56b9643e6e45be506b50c12d5367"), looks := true }, kinds := [], alts := [], laidByText := true, laidKinds := [.data, .data, .data], laidTests := true, laidLooks := .later }
def TopWorksCardSaid : Prop := Claim7.holds Tryz.pinned (.plain (OpenSpec.ofChange topWorksSpec)) topWorksCard

/-- THE TIED CARD OF 'turnstonetop.TopServes'. -/
def topServesCard : Claim7 := { stood := { row := topServesRow, standIns := [], harness := (true, "c741f9a94baa5f856bf33fb1c0f420c9acdb56b9643e6e45be506b50c12d5367"), looks := true }, kinds := [], alts := [], laidByText := true, laidKinds := [.data, .data, .data], laidTests := true, laidLooks := .later }
def TopServesCardSaid : Prop := Claim7.holds Tryz.pinned (.plain (OpenSpec.ofChange topServesSpec)) topServesCard

/-- THE TIED CARD OF 'turnstonetop.TopKeeps'. -/
def topKeepsCard : Claim7 := { stood := { row := topKeepsRow, standIns := [], harness := (true, "c741f9a94baa5f856bf33fb1c0f420c9acdb56b9643e6e45be506b50c12d5367"), looks := true }, kinds := [], alts := [], laidByText := true, laidKinds := [.data, .data, .data], laidTests := true, laidLooks := .later }
def TopKeepsCardSaid : Prop := Claim7.holds Tryz.pinned (.plain (OpenSpec.ofChange topKeepsSpec)) topKeepsCard

/-- THE TIED CARD OF 'turnstonetop.TopSteady'. -/
def topSteadyCard : Claim7 := { stood := { row := topSteadyRow, standIns := [], harness := (true, "c741f9a94baa5f856bf33fb1c0f420c9acdb56b9643e6e45be506b50c12d5367"), looks := true }, kinds := [], alts := [], laidByText := true, laidKinds := [.data, .data, .data], laidTests := true, laidLooks := .later }
def TopSteadyCardSaid : Prop := Claim7.holds Tryz.pinned (.plain (OpenSpec.ofChange topSteadySpec)) topSteadyCard

/-- THE TIED CARD OF 'turnstonetop.TopLingers'. -/
def topLingersCard : Claim7 := { stood := { row := topLingersRow, standIns := [], harness := (true, "c741f9a94baa5f856bf33fb1c0f420c9acdb56b9643e6e45be506b50c12d5367"), looks := true }, kinds := [], alts := [], laidByText := true, laidKinds := [.data, .data, .data], laidTests := true, laidLooks := .later }
def TopLingersCardSaid : Prop := Claim7.holds Tryz.pinned (.plain (OpenSpec.ofChange topLingersSpec)) topLingersCard

/-- THE SECOND FORM's CARD OF 'turnstonelaw21.SchedWorks'. -/
def schedWorksUptoCard : Claim7 := { stood := { row := schedWorksUptoRow, standIns := [], harness := (true, "c741f9a94baa5f856bf33fb1c0f420c9acdb56b9643e6e45be506b50c12d5367"), looks := true }, kinds := [], alts := [], laidByText := true, laidKinds := [.data, .data, .data], laidTests := true, laidLooks := .later }
def SchedWorksUptoCardSaid : Prop := Claim7.holds Tryz.pinned (.plain (OpenSpec.upto schedWorksSpec)) schedWorksUptoCard

/-- THE SECOND FORM's CARD OF 'turnstonelaw21.SchedApart'. -/
def schedApartUptoCard : Claim7 := { stood := { row := schedApartUptoRow, standIns := [], harness := (true, "c741f9a94baa5f856bf33fb1c0f420c9acdb56b9643e6e45be506b50c12d5367"), looks := true }, kinds := [], alts := [], laidByText := true, laidKinds := [.data, .data, .data], laidTests := true, laidLooks := .later }
def SchedApartUptoCardSaid : Prop := Claim7.holds Tryz.pinned (.plain (OpenSpec.upto schedApartSpec)) schedApartUptoCard

/-- THE SECOND FORM's CARD OF 'turnstonelaw21.SchedRefuses'. -/
def schedRefusesUptoCard : Claim7 := { stood := { row := schedRefusesUptoRow, standIns := [], harness := (true, "c741f9a94baa5f856bf33fb1c0f420c9acdb56b9643e6e45be506b50c12d5367"), looks := true }, kinds := [], alts := [], laidByText := true, laidKinds := [.data, .data, .data], laidTests := true, laidLooks := .later }
def SchedRefusesUptoCardSaid : Prop := Claim7.holds Tryz.pinned (.plain (OpenSpec.upto schedRefusesSpec)) schedRefusesUptoCard

/-- THE SECOND FORM's CARD OF 'turnstonelaw21.SchedOrigins'. -/
def schedOriginsUptoCard : Claim7 := { stood := { row := schedOriginsUptoRow, standIns := [], harness := (true, "c741f9a94baa5f856bf33fb1c0f420c9acdb56b9643e6e45be506b50c12d5367"), looks := true }, kinds := [], alts := [], laidByText := true, laidKinds := [.data, .data, .data], laidTests := true, laidLooks := .later }
def SchedOriginsUptoCardSaid : Prop := Claim7.holds Tryz.pinned (.plain (OpenSpec.upto schedOriginsSpec)) schedOriginsUptoCard

/-- THE SECOND FORM's CARD OF 'turnstonelaw21.SchedNone'. -/
def schedNoneUptoCard : Claim7 := { stood := { row := schedNoneUptoRow, standIns := [], harness := (true, "c741f9a94baa5f856bf33fb1c0f420c9acdb56b9643e6e45be506b50c12d5367"), looks := true }, kinds := [], alts := [], laidByText := true, laidKinds := [.data, .data, .data], laidTests := true, laidLooks := .later }
def SchedNoneUptoCardSaid : Prop := Claim7.holds Tryz.pinned (.plain (OpenSpec.upto schedNoneSpec)) schedNoneUptoCard

/-- THE SECOND FORM's CARD OF 'turnstonetop.TopWorks'. -/
def topWorksUptoCard : Claim7 := { stood := { row := topWorksUptoRow, standIns := [], harness := (true, "c741f9a94baa5f856bf33fb1c0f420c9acdb56b9643e6e45be506b50c12d5367"), looks := true }, kinds := [], alts := [], laidByText := true, laidKinds := [.data, .data, .data], laidTests := true, laidLooks := .later }
def TopWorksUptoCardSaid : Prop := Claim7.holds Tryz.pinned (.plain (OpenSpec.upto topWorksSpec)) topWorksUptoCard

/-- THE SECOND FORM's CARD OF 'turnstonetop.TopServes'. -/
def topServesUptoCard : Claim7 := { stood := { row := topServesUptoRow, standIns := [], harness := (true, "c741f9a94baa5f856bf33fb1c0f420c9acdb56b9643e6e45be506b50c12d5367"), looks := true }, kinds := [], alts := [], laidByText := true, laidKinds := [.data, .data, .data], laidTests := true, laidLooks := .later }
def TopServesUptoCardSaid : Prop := Claim7.holds Tryz.pinned (.plain (OpenSpec.upto topServesSpec)) topServesUptoCard

/-- THE SECOND FORM's CARD OF 'turnstonetop.TopKeeps'. -/
def topKeepsUptoCard : Claim7 := { stood := { row := topKeepsUptoRow, standIns := [], harness := (true, "c741f9a94baa5f856bf33fb1c0f420c9acdb56b9643e6e45be506b50c12d5367"), looks := true }, kinds := [], alts := [], laidByText := true, laidKinds := [.data, .data, .data], laidTests := true, laidLooks := .later }
def TopKeepsUptoCardSaid : Prop := Claim7.holds Tryz.pinned (.plain (OpenSpec.upto topKeepsSpec)) topKeepsUptoCard

/-- THE SECOND FORM's CARD OF 'turnstonetop.TopSteady'. -/
def topSteadyUptoCard : Claim7 := { stood := { row := topSteadyUptoRow, standIns := [], harness := (true, "c741f9a94baa5f856bf33fb1c0f420c9acdb56b9643e6e45be506b50c12d5367"), looks := true }, kinds := [], alts := [], laidByText := true, laidKinds := [.data, .data, .data], laidTests := true, laidLooks := .later }
def TopSteadyUptoCardSaid : Prop := Claim7.holds Tryz.pinned (.plain (OpenSpec.upto topSteadySpec)) topSteadyUptoCard

/-- THE SECOND FORM's CARD OF 'turnstonetop.TopLingers'. -/
def topLingersUptoCard : Claim7 := { stood := { row := topLingersUptoRow, standIns := [], harness := (true, "c741f9a94baa5f856bf33fb1c0f420c9acdb56b9643e6e45be506b50c12d5367"), looks := true }, kinds := [], alts := [], laidByText := true, laidKinds := [.data, .data, .data], laidTests := true, laidLooks := .later }
def TopLingersUptoCardSaid : Prop := Claim7.holds Tryz.pinned (.plain (OpenSpec.upto topLingersSpec)) topLingersUptoCard
end Rows
end Go.Proofs.YtalffooghioekaaGreatDoor
