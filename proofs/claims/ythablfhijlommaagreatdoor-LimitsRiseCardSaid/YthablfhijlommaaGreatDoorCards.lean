/-
  DERIVED. GIVEN WITH THE SEED: THE CARDS: each row of YthablfhijlommaaGreatDoorRows.lean that lists a variable, with what it lists TIED to the program's text (the seventh form; the later family's looks); each row that meets fmt, with fmt's text TOLD by the authors' own Lean function (tested against real Go, not proved from fmt's source: count such statements apart). THE CARD IS WHAT COUNTS. Prove the row's statement (the work); the ties are given (YthablfhijlommaaGreatDoorTie.lean); close each card by the builder's one call (the guide's Derived/Test/ToyasCard.lean, 'card_holds'). Laid BY PROGRAM, IN A SANDBOX (cutbox-door.mjs). By AI agents, Wed Nov 11 2026. No macro, syntax, notation, axiom, sorry.
-/
import Derived.Test.YthablfhijlommaaGreatDoorRows
import GoSem.ClaimSeven
namespace Go.Proofs.YthablfhijlommaaGreatDoor
namespace Rows

/-- THE TIED CARD OF 'turnstonelaw19.LimitsFirst'. -/
def limitsFirstCard : Claim7 := { stood := { row := limitsFirstRow, standIns := [], harness := (true, "cbfe9f5de794285ea39be15359804306730117b9e29354c663c7bef55521a27c"), looks := true }, kinds := [], alts := [], laidByText := true, laidKinds := [.data, .data, .data], laidTests := true, laidLooks := .later }
def LimitsFirstCardSaid : Prop := Claim7.holds Tryz.pinned (.plain (OpenSpec.ofChange limitsFirstSpec)) limitsFirstCard

/-- THE TIED CARD OF 'turnstonelaw19.LimitsRise'. -/
def limitsRiseCard : Claim7 := { stood := { row := limitsRiseRow, standIns := [], harness := (true, "cbfe9f5de794285ea39be15359804306730117b9e29354c663c7bef55521a27c"), looks := true }, kinds := [], alts := [], laidByText := true, laidKinds := [.data, .data, .data], laidTests := true, laidLooks := .later }
def LimitsRiseCardSaid : Prop := Claim7.holds Tryz.pinned (.plain (OpenSpec.ofChange limitsRiseSpec)) limitsRiseCard

/-- THE TIED CARD OF 'turnstonelaw19.LimitsKeep'. -/
def limitsKeepCard : Claim7 := { stood := { row := limitsKeepRow, standIns := [], harness := (true, "cbfe9f5de794285ea39be15359804306730117b9e29354c663c7bef55521a27c"), looks := true }, kinds := [], alts := [], laidByText := true, laidKinds := [.data, .data, .data], laidTests := true, laidLooks := .later }
def LimitsKeepCardSaid : Prop := Claim7.holds Tryz.pinned (.plain (OpenSpec.ofChange limitsKeepSpec)) limitsKeepCard

/-- THE TIED CARD OF 'turnstonelaw19.LimitsAsk'. -/
def limitsAskCard : Claim7 := { stood := { row := limitsAskRow, standIns := [], harness := (true, "cbfe9f5de794285ea39be15359804306730117b9e29354c663c7bef55521a27c"), looks := true }, kinds := [], alts := [], laidByText := true, laidKinds := [.data, .data, .data], laidTests := true, laidLooks := .later }
def LimitsAskCardSaid : Prop := Claim7.holds Tryz.pinned (.plain (OpenSpec.ofChange limitsAskSpec)) limitsAskCard

/-- THE TIED CARD OF 'turnstonelaw20.TableLeast'. -/
def tableLeastCard : Claim7 := { stood := { row := tableLeastRow, standIns := [], harness := (true, "cbfe9f5de794285ea39be15359804306730117b9e29354c663c7bef55521a27c"), looks := true }, kinds := [], alts := [], laidByText := true, laidKinds := [.data, .data, .data], laidTests := true, laidLooks := .later }
def TableLeastCardSaid : Prop := Claim7.holds Tryz.pinned (.plain (OpenSpec.ofChange tableLeastSpec)) tableLeastCard

/-- THE TIED CARD OF 'turnstonelaw20.TableOnce'. -/
def tableOnceCard : Claim7 := { stood := { row := tableOnceRow, standIns := [], harness := (true, "cbfe9f5de794285ea39be15359804306730117b9e29354c663c7bef55521a27c"), looks := true }, kinds := [], alts := [], laidByText := true, laidKinds := [.data, .data, .data], laidTests := true, laidLooks := .later }
def TableOnceCardSaid : Prop := Claim7.holds Tryz.pinned (.plain (OpenSpec.ofChange tableOnceSpec)) tableOnceCard

/-- THE TIED CARD OF 'turnstonelaw18.CoreNone'. -/
def coreNoneCard : Claim7 := { stood := { row := coreNoneRow, standIns := [], harness := (true, "cbfe9f5de794285ea39be15359804306730117b9e29354c663c7bef55521a27c"), looks := true }, kinds := [], alts := [], laidByText := true, laidKinds := [.data, .data, .data], laidTests := true, laidLooks := .later }
def CoreNoneCardSaid : Prop := Claim7.holds Tryz.pinned (.plain (OpenSpec.ofChange coreNoneSpec)) coreNoneCard

/-- THE TIED CARD OF 'turnstonelaw20.TablePlays'. -/
def tablePlaysCard : Claim7 := { stood := { row := tablePlaysRow, standIns := [], harness := (true, "cbfe9f5de794285ea39be15359804306730117b9e29354c663c7bef55521a27c"), looks := true }, kinds := [], alts := [], laidByText := true, laidKinds := [.data, .data, .data], laidTests := true, laidLooks := .later }
def TablePlaysCardSaid : Prop := Claim7.holds Tryz.pinned (.plain (OpenSpec.ofChange tablePlaysSpec)) tablePlaysCard

/-- THE TIED CARD OF 'turnstonelaw20.TableNone'. -/
def tableNoneCard : Claim7 := { stood := { row := tableNoneRow, standIns := [], harness := (true, "cbfe9f5de794285ea39be15359804306730117b9e29354c663c7bef55521a27c"), looks := true }, kinds := [], alts := [], laidByText := true, laidKinds := [.data, .data, .data], laidTests := true, laidLooks := .later }
def TableNoneCardSaid : Prop := Claim7.holds Tryz.pinned (.plain (OpenSpec.ofChange tableNoneSpec)) tableNoneCard

/-- THE TIED CARD OF 'turnstonelaw20.TableSets'. -/
def tableSetsCard : Claim7 := { stood := { row := tableSetsRow, standIns := [], harness := (true, "cbfe9f5de794285ea39be15359804306730117b9e29354c663c7bef55521a27c"), looks := true }, kinds := [], alts := [], laidByText := true, laidKinds := [.data, .data, .data], laidTests := true, laidLooks := .later }
def TableSetsCardSaid : Prop := Claim7.holds Tryz.pinned (.plain (OpenSpec.ofChange tableSetsSpec)) tableSetsCard

/-- THE SECOND FORM's CARD OF 'turnstonelaw19.LimitsFirst'. -/
def limitsFirstUptoCard : Claim7 := { stood := { row := limitsFirstUptoRow, standIns := [], harness := (true, "cbfe9f5de794285ea39be15359804306730117b9e29354c663c7bef55521a27c"), looks := true }, kinds := [], alts := [], laidByText := true, laidKinds := [.data, .data, .data], laidTests := true, laidLooks := .later }
def LimitsFirstUptoCardSaid : Prop := Claim7.holds Tryz.pinned (.plain (OpenSpec.upto limitsFirstSpec)) limitsFirstUptoCard

/-- THE SECOND FORM's CARD OF 'turnstonelaw19.LimitsRise'. -/
def limitsRiseUptoCard : Claim7 := { stood := { row := limitsRiseUptoRow, standIns := [], harness := (true, "cbfe9f5de794285ea39be15359804306730117b9e29354c663c7bef55521a27c"), looks := true }, kinds := [], alts := [], laidByText := true, laidKinds := [.data, .data, .data], laidTests := true, laidLooks := .later }
def LimitsRiseUptoCardSaid : Prop := Claim7.holds Tryz.pinned (.plain (OpenSpec.upto limitsRiseSpec)) limitsRiseUptoCard

/-- THE SECOND FORM's CARD OF 'turnstonelaw19.LimitsKeep'. -/
def limitsKeepUptoCard : Claim7 := { stood := { row := limitsKeepUptoRow, standIns := [], harness := (true, "cbfe9f5de794285ea39be15359804306730117b9e29354c663c7bef55521a27c"), looks := true }, kinds := [], alts := [], laidByText := true, laidKinds := [.data, .data, .data], laidTests := true, laidLooks := .later }
def LimitsKeepUptoCardSaid : Prop := Claim7.holds Tryz.pinned (.plain (OpenSpec.upto limitsKeepSpec)) limitsKeepUptoCard

/-- THE SECOND FORM's CARD OF 'turnstonelaw19.LimitsAsk'. -/
def limitsAskUptoCard : Claim7 := { stood := { row := limitsAskUptoRow, standIns := [], harness := (true, "cbfe9f5de794285ea39be15359804306730117b9e29354c663c7bef55521a27c"), looks := true }, kinds := [], alts := [], laidByText := true, laidKinds := [.data, .data, .data], laidTests := true, laidLooks := .later }
def LimitsAskUptoCardSaid : Prop := Claim7.holds Tryz.pinned (.plain (OpenSpec.upto limitsAskSpec)) limitsAskUptoCard

/-- THE SECOND FORM's CARD OF 'turnstonelaw20.TableLeast'. -/
def tableLeastUptoCard : Claim7 := { stood := { row := tableLeastUptoRow, standIns := [], harness := (true, "cbfe9f5de794285ea39be15359804306730117b9e29354c663c7bef55521a27c"), looks := true }, kinds := [], alts := [], laidByText := true, laidKinds := [.data, .data, .data], laidTests := true, laidLooks := .later }
def TableLeastUptoCardSaid : Prop := Claim7.holds Tryz.pinned (.plain (OpenSpec.upto tableLeastSpec)) tableLeastUptoCard

/-- THE SECOND FORM's CARD OF 'turnstonelaw20.TableOnce'. -/
def tableOnceUptoCard : Claim7 := { stood := { row := tableOnceUptoRow, standIns := [], harness := (true, "cbfe9f5de794285ea39be15359804306730117b9e29354c663c7bef55521a27c"), looks := true }, kinds := [], alts := [], laidByText := true, laidKinds := [.data, .data, .data], laidTests := true, laidLooks := .later }
def TableOnceUptoCardSaid : Prop := Claim7.holds Tryz.pinned (.plain (OpenSpec.upto tableOnceSpec)) tableOnceUptoCard

/-- THE SECOND FORM's CARD OF 'turnstonelaw18.CoreNone'. -/
def coreNoneUptoCard : Claim7 := { stood := { row := coreNoneUptoRow, standIns := [], harness := (true, "cbfe9f5de794285ea39be15359804306730117b9e29354c663c7bef55521a27c"), looks := true }, kinds := [], alts := [], laidByText := true, laidKinds := [.data, .data, .data], laidTests := true, laidLooks := .later }
def CoreNoneUptoCardSaid : Prop := Claim7.holds Tryz.pinned (.plain (OpenSpec.upto coreNoneSpec)) coreNoneUptoCard

/-- THE SECOND FORM's CARD OF 'turnstonelaw20.TablePlays'. -/
def tablePlaysUptoCard : Claim7 := { stood := { row := tablePlaysUptoRow, standIns := [], harness := (true, "cbfe9f5de794285ea39be15359804306730117b9e29354c663c7bef55521a27c"), looks := true }, kinds := [], alts := [], laidByText := true, laidKinds := [.data, .data, .data], laidTests := true, laidLooks := .later }
def TablePlaysUptoCardSaid : Prop := Claim7.holds Tryz.pinned (.plain (OpenSpec.upto tablePlaysSpec)) tablePlaysUptoCard

/-- THE SECOND FORM's CARD OF 'turnstonelaw20.TableNone'. -/
def tableNoneUptoCard : Claim7 := { stood := { row := tableNoneUptoRow, standIns := [], harness := (true, "cbfe9f5de794285ea39be15359804306730117b9e29354c663c7bef55521a27c"), looks := true }, kinds := [], alts := [], laidByText := true, laidKinds := [.data, .data, .data], laidTests := true, laidLooks := .later }
def TableNoneUptoCardSaid : Prop := Claim7.holds Tryz.pinned (.plain (OpenSpec.upto tableNoneSpec)) tableNoneUptoCard

/-- THE SECOND FORM's CARD OF 'turnstonelaw20.TableSets'. -/
def tableSetsUptoCard : Claim7 := { stood := { row := tableSetsUptoRow, standIns := [], harness := (true, "cbfe9f5de794285ea39be15359804306730117b9e29354c663c7bef55521a27c"), looks := true }, kinds := [], alts := [], laidByText := true, laidKinds := [.data, .data, .data], laidTests := true, laidLooks := .later }
def TableSetsUptoCardSaid : Prop := Claim7.holds Tryz.pinned (.plain (OpenSpec.upto tableSetsSpec)) tableSetsUptoCard
end Rows
end Go.Proofs.YthablfhijlommaaGreatDoor
