/-
  DERIVED. GIVEN WITH THE SEED: THE CARDS: each row of YtjiiakjheghcoaaGreatDoorRows.lean that lists a variable, with what it lists TIED to the program's text (the seventh form; the later family's looks); each row that meets fmt, with fmt's text TOLD by the authors' own Lean function (tested against real Go, not proved from fmt's source: count such statements apart). THE CARD IS WHAT COUNTS. Prove the row's statement (the work); the ties are given (YtjiiakjheghcoaaGreatDoorTie.lean); close each card by the builder's one call (the guide's Derived/Test/ToyasCard.lean, 'card_holds'). Laid BY PROGRAM, IN A SANDBOX (cutbox-door.mjs). By AI agents, Wed Nov 11 2026. No macro, syntax, notation, axiom, sorry.
-/
import Derived.Test.YtjiiakjheghcoaaGreatDoorRows
import GoSem.ClaimSeven
namespace Go.Proofs.YtjiiakjheghcoaaGreatDoor
namespace Rows

/-- THE TIED CARD OF 'turnstonelaw21.SchedWorks'. -/
def schedWorksCard : Claim7 := { stood := { row := schedWorksRow, standIns := [], harness := (true, "250af9998b2714eee765c97c9b3a3acd56a7276b2d7543f21e2a7f885aa88b50"), looks := true }, kinds := [], alts := [], laidByText := true, laidKinds := [.data, .data, .data], laidTests := true, laidLooks := .later }
def SchedWorksCardSaid : Prop := Claim7.holds Tryz.pinned (.plain (OpenSpec.ofChange schedWorksSpec)) schedWorksCard

/-- THE TIED CARD OF 'turnstonelaw21.SchedApart'. -/
def schedApartCard : Claim7 := { stood := { row := schedApartRow, standIns := [], harness := (true, "250af9998b2714eee765c97c9b3a3acd56a7276b2d7543f21e2a7f885aa88b50"), looks := true }, kinds := [], alts := [], laidByText := true, laidKinds := [.data, .data, .data], laidTests := true, laidLooks := .later }
def SchedApartCardSaid : Prop := Claim7.holds Tryz.pinned (.plain (OpenSpec.ofChange schedApartSpec)) schedApartCard

/-- THE TIED CARD OF 'turnstonelaw21.SchedRefuses'. -/
def schedRefusesCard : Claim7 := { stood := { row := schedRefusesRow, standIns := [], harness := (true, "250af9998b2714eee765c97c9b3a3acd56a7276b2d7543f21e2a7f885aa88b50"), looks := true }, kinds := [], alts := [], laidByText := true, laidKinds := [.data, .data, .data], laidTests := true, laidLooks := .later }
def SchedRefusesCardSaid : Prop := Claim7.holds Tryz.pinned (.plain (OpenSpec.ofChange schedRefusesSpec)) schedRefusesCard

/-- THE TIED CARD OF 'turnstonelaw21.SchedOrigins'. -/
def schedOriginsCard : Claim7 := { stood := { row := schedOriginsRow, standIns := [], harness := (true, "250af9998b2714eee765c97c9b3a3acd56a7276b2d7543f21e2a7f885aa88b50"), looks := true }, kinds := [], alts := [], laidByText := true, laidKinds := [.data, .data, .data], laidTests := true, laidLooks := .later }
def SchedOriginsCardSaid : Prop := Claim7.holds Tryz.pinned (.plain (OpenSpec.ofChange schedOriginsSpec)) schedOriginsCard

/-- THE SECOND FORM's CARD OF 'turnstonelaw21.SchedWorks'. -/
def schedWorksUptoCard : Claim7 := { stood := { row := schedWorksUptoRow, standIns := [], harness := (true, "250af9998b2714eee765c97c9b3a3acd56a7276b2d7543f21e2a7f885aa88b50"), looks := true }, kinds := [], alts := [], laidByText := true, laidKinds := [.data, .data, .data], laidTests := true, laidLooks := .later }
def SchedWorksUptoCardSaid : Prop := Claim7.holds Tryz.pinned (.plain (OpenSpec.upto schedWorksSpec)) schedWorksUptoCard

/-- THE SECOND FORM's CARD OF 'turnstonelaw21.SchedApart'. -/
def schedApartUptoCard : Claim7 := { stood := { row := schedApartUptoRow, standIns := [], harness := (true, "250af9998b2714eee765c97c9b3a3acd56a7276b2d7543f21e2a7f885aa88b50"), looks := true }, kinds := [], alts := [], laidByText := true, laidKinds := [.data, .data, .data], laidTests := true, laidLooks := .later }
def SchedApartUptoCardSaid : Prop := Claim7.holds Tryz.pinned (.plain (OpenSpec.upto schedApartSpec)) schedApartUptoCard

/-- THE SECOND FORM's CARD OF 'turnstonelaw21.SchedRefuses'. -/
def schedRefusesUptoCard : Claim7 := { stood := { row := schedRefusesUptoRow, standIns := [], harness := (true, "250af9998b2714eee765c97c9b3a3acd56a7276b2d7543f21e2a7f885aa88b50"), looks := true }, kinds := [], alts := [], laidByText := true, laidKinds := [.data, .data, .data], laidTests := true, laidLooks := .later }
def SchedRefusesUptoCardSaid : Prop := Claim7.holds Tryz.pinned (.plain (OpenSpec.upto schedRefusesSpec)) schedRefusesUptoCard

/-- THE SECOND FORM's CARD OF 'turnstonelaw21.SchedOrigins'. -/
def schedOriginsUptoCard : Claim7 := { stood := { row := schedOriginsUptoRow, standIns := [], harness := (true, "250af9998b2714eee765c97c9b3a3acd56a7276b2d7543f21e2a7f885aa88b50"), looks := true }, kinds := [], alts := [], laidByText := true, laidKinds := [.data, .data, .data], laidTests := true, laidLooks := .later }
def SchedOriginsUptoCardSaid : Prop := Claim7.holds Tryz.pinned (.plain (OpenSpec.upto schedOriginsSpec)) schedOriginsUptoCard
end Rows
end Go.Proofs.YtjiiakjheghcoaaGreatDoor
