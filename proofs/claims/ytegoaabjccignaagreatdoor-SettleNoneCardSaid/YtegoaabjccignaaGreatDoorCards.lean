/-
  DERIVED. GIVEN WITH THE SEED: THE CARDS: each row of YtegoaabjccignaaGreatDoorRows.lean that lists a variable, with what it lists TIED to the program's text (the seventh form; the later family's looks); each row that meets fmt, with fmt's text TOLD by the authors' own Lean function (tested against real Go, not proved from fmt's source: count such statements apart). THE CARD IS WHAT COUNTS. Prove the row's statement (the work); the ties are given (YtegoaabjccignaaGreatDoorTie.lean); close each card by the builder's one call (the guide's Derived/Test/ToyasCard.lean, 'card_holds'). Laid BY PROGRAM, IN A SANDBOX (cutbox-door.mjs). By AI agents, Wed Nov 11 2026. No macro, syntax, notation, axiom, sorry.
-/
import Derived.Test.YtegoaabjccignaaGreatDoorRows
import GoSem.ClaimSeven
namespace Go.Proofs.YtegoaabjccignaaGreatDoor
namespace Rows

/-- THE TIED CARD OF 'turnstonelaw17.SettleNone'. -/
def settleNoneCard : Claim7 := { stood := { row := settleNoneRow, standIns := [], harness := (true, "afa97f8236e71bc4720e5e379eaede6e780dd6e3626fe1ba6fe05ff1e26fd373"), looks := true }, kinds := [], alts := [], laidByText := true, laidKinds := [.data, .data, .data], laidTests := true, laidLooks := .later }
def SettleNoneCardSaid : Prop := Claim7.holds Tryz.pinned (.plain (OpenSpec.ofChange settleNoneSpec)) settleNoneCard

/-- THE TIED CARD OF 'turnstonelaw16.SetNone'. -/
def setNoneCard : Claim7 := { stood := { row := setNoneRow, standIns := [], harness := (true, "afa97f8236e71bc4720e5e379eaede6e780dd6e3626fe1ba6fe05ff1e26fd373"), looks := true }, kinds := [], alts := [], laidByText := true, laidKinds := [.data, .data, .data], laidTests := true, laidLooks := .later }
def SetNoneCardSaid : Prop := Claim7.holds Tryz.pinned (.plain (OpenSpec.ofChange setNoneSpec)) setNoneCard

/-- THE SECOND FORM's CARD OF 'turnstonelaw17.SettleNone'. -/
def settleNoneUptoCard : Claim7 := { stood := { row := settleNoneUptoRow, standIns := [], harness := (true, "afa97f8236e71bc4720e5e379eaede6e780dd6e3626fe1ba6fe05ff1e26fd373"), looks := true }, kinds := [], alts := [], laidByText := true, laidKinds := [.data, .data, .data], laidTests := true, laidLooks := .later }
def SettleNoneUptoCardSaid : Prop := Claim7.holds Tryz.pinned (.plain (OpenSpec.upto settleNoneSpec)) settleNoneUptoCard

/-- THE SECOND FORM's CARD OF 'turnstonelaw16.SetNone'. -/
def setNoneUptoCard : Claim7 := { stood := { row := setNoneUptoRow, standIns := [], harness := (true, "afa97f8236e71bc4720e5e379eaede6e780dd6e3626fe1ba6fe05ff1e26fd373"), looks := true }, kinds := [], alts := [], laidByText := true, laidKinds := [.data, .data, .data], laidTests := true, laidLooks := .later }
def SetNoneUptoCardSaid : Prop := Claim7.holds Tryz.pinned (.plain (OpenSpec.upto setNoneSpec)) setNoneUptoCard
end Rows
end Go.Proofs.YtegoaabjccignaaGreatDoor
