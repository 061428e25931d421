/-
  NARROWER THAN 'FOR EVERY INPUT', by the rows' own cells (each row's printed sentence says how): SettleRuns: laid · CoreRequests: laid · CoreWorks: laid · CoreLow: laid · CoreHigh: laid · CoreRefuses: laid · CoreClones: laid · CoreShifts: laid.
  DERIVED. THE GIVEN ROWS OF THIS SEAT. 8 by the template 'for every input the law returns true; each argument reads behind the call as it read before'; 0 by the template 'total and deterministic' (their statements: YtkbcfknnieggbaaGreatDoorTotals.lean).
  GIVEN WITH THE SEED: the statements are not yours to turn. If you find one false, say at which input.
  Laid BY PROGRAM, IN A SANDBOX (cutbox-rows.mjs): the forced cells as the released guide's own fill.sh prints them over the translation f9557b230ad21784… (all of the seat's roots in one cut). By AI agents, Wed Nov 11 2026. No macro, syntax, notation, axiom, sorry.
-/
import Derived.Test.YtkbcfknnieggbaaGreatDoorChecked
import GoSem.Claim
import GoSem.ClaimJoined
import GoSem.ClaimMapViews
import Derived.JoinedTies
import Derived.KernelRfl
namespace Go.Proofs.YtkbcfknnieggbaaGreatDoor
/- THE CELL 'sum', in the pinned program and in every row, IS THE sha256 OF THE DUMP (.gsa) THAT YtkbcfknnieggbaaGreatDoorProg.lean LOADS. Nothing in Lean hashes anything: it is a label: what it is worth is what the hold of that sum in a sandbox is worth. -/
noncomputable def Tryz.pinned : Pinned := { name := "ytkbcfknnieggbaagreatdoor", sum := "f9557b230ad217848fbd72edee5c1ad8a23bce1787e09d6955be57f1aa115d4a", checked := Tryz.checked }
namespace Rows
def none {H : Type} : Left H := { results := [], args := [] }

/- WHAT THE LISTED PACKAGE-LEVEL VARIABLES READ AS WHEN THE CALL BEGINS. Each datum BY PROGRAM (the guide's laid-datum.mjs) off the statement by which the dump's own 'gosem.cut.vars' lays the variable. In a bare row this is a premise. The card (YtkbcfknnieggbaaGreatDoorCards.lean) ties it to the program's text. -/
def laid_math_bits_deBruijn32tab {H : Type} : DataW H := .agg [.lit (.int .u8 0), .lit (.int .u8 1), .lit (.int .u8 28), .lit (.int .u8 2), .lit (.int .u8 29), .lit (.int .u8 14), .lit (.int .u8 24), .lit (.int .u8 3), .lit (.int .u8 30), .lit (.int .u8 22), .lit (.int .u8 20), .lit (.int .u8 15), .lit (.int .u8 25), .lit (.int .u8 17), .lit (.int .u8 4), .lit (.int .u8 8), .lit (.int .u8 31), .lit (.int .u8 27), .lit (.int .u8 13), .lit (.int .u8 23), .lit (.int .u8 21), .lit (.int .u8 19), .lit (.int .u8 16), .lit (.int .u8 7), .lit (.int .u8 26), .lit (.int .u8 12), .lit (.int .u8 18), .lit (.int .u8 6), .lit (.int .u8 11), .lit (.int .u8 5), .lit (.int .u8 10), .lit (.int .u8 9)]
def laid_math_bits_deBruijn64tab {H : Type} : DataW H := .agg [.lit (.int .u8 0), .lit (.int .u8 1), .lit (.int .u8 56), .lit (.int .u8 2), .lit (.int .u8 57), .lit (.int .u8 49), .lit (.int .u8 28), .lit (.int .u8 3), .lit (.int .u8 61), .lit (.int .u8 58), .lit (.int .u8 42), .lit (.int .u8 50), .lit (.int .u8 38), .lit (.int .u8 29), .lit (.int .u8 17), .lit (.int .u8 4), .lit (.int .u8 62), .lit (.int .u8 47), .lit (.int .u8 59), .lit (.int .u8 36), .lit (.int .u8 45), .lit (.int .u8 43), .lit (.int .u8 51), .lit (.int .u8 22), .lit (.int .u8 53), .lit (.int .u8 39), .lit (.int .u8 33), .lit (.int .u8 30), .lit (.int .u8 24), .lit (.int .u8 18), .lit (.int .u8 12), .lit (.int .u8 5), .lit (.int .u8 63), .lit (.int .u8 55), .lit (.int .u8 48), .lit (.int .u8 27), .lit (.int .u8 60), .lit (.int .u8 41), .lit (.int .u8 37), .lit (.int .u8 16), .lit (.int .u8 46), .lit (.int .u8 35), .lit (.int .u8 44), .lit (.int .u8 21), .lit (.int .u8 52), .lit (.int .u8 32), .lit (.int .u8 23), .lit (.int .u8 11), .lit (.int .u8 54), .lit (.int .u8 26), .lit (.int .u8 40), .lit (.int .u8 15), .lit (.int .u8 34), .lit (.int .u8 20), .lit (.int .u8 31), .lit (.int .u8 10), .lit (.int .u8 25), .lit (.int .u8 14), .lit (.int .u8 19), .lit (.int .u8 9), .lit (.int .u8 13), .lit (.int .u8 8), .lit (.int .u8 7), .lit (.int .u8 6)]
def laid_internal_strconv_uint64pow10 {H : Type} : DataW H := .agg [.lit (.int .u64 1), .lit (.int .u64 10), .lit (.int .u64 100), .lit (.int .u64 1000), .lit (.int .u64 10000), .lit (.int .u64 100000), .lit (.int .u64 1000000), .lit (.int .u64 10000000), .lit (.int .u64 100000000), .lit (.int .u64 1000000000), .lit (.int .u64 10000000000), .lit (.int .u64 100000000000), .lit (.int .u64 1000000000000), .lit (.int .u64 10000000000000), .lit (.int .u64 100000000000000), .lit (.int .u64 1000000000000000), .lit (.int .u64 10000000000000000), .lit (.int .u64 100000000000000000), .lit (.int .u64 1000000000000000000), .lit (.int .u64 10000000000000000000)]

/-- 'turnstonelaw17.SettleRuns': WHATEVER THE INPUT: true; the input reads as it did. -/
def settleRunsSpec : ChangeSpec := { name := "settleRuns", fn := fun _ => fun
  | [d1, d2] => { results := [.lit (.bool true)], args := [d1, d2] }
  | _ => none }
def settleRunsRow : OpenClaim := { program := "ytkbcfknnieggbaagreatdoor", sum := "f9557b230ad217848fbd72edee5c1ad8a23bce1787e09d6955be57f1aa115d4a", func := "turnstone/turnstonelaw17.SettleRuns", spec := "settleRuns", inPlace := ["math/bits.Add64", "math/bits.Sub64"], unfollowed := true, recurses := true, named := ["math/bits.divideError", "math/bits.overflowError", "internal/strconv.uint64pow10", "math/bits.deBruijn32tab", "math/bits.deBruijn64tab"], apart := false, laid := [("math/bits.deBruijn32tab", laid_math_bits_deBruijn32tab), ("math/bits.deBruijn64tab", laid_math_bits_deBruijn64tab), ("internal/strconv.uint64pow10", laid_internal_strconv_uint64pow10)] }
def SettleRunsSaid : Prop := settleRunsRow.holds Tryz.pinned (OpenSpec.ofChange settleRunsSpec)

/-- ITS FALSE NEIGHBOUR: 'it returns false'. Refute it at one input. -/
def settleRunsWrong : ChangeSpec := { name := "settleRuns", fn := fun _ => fun
  | [d1, d2] => { results := [.lit (.bool false)], args := [d1, d2] }
  | _ => none }
def SettleRunsWrongFalsely : Prop := settleRunsRow.holds Tryz.pinned (OpenSpec.ofChange settleRunsWrong)

/-- 'turnstonelaw18.CoreRequests': WHATEVER THE INPUT: true; the input reads as it did. -/
def coreRequestsSpec : ChangeSpec := { name := "coreRequests", fn := fun _ => fun
  | [d1, d2] => { results := [.lit (.bool true)], args := [d1, d2] }
  | _ => none }
def coreRequestsRow : OpenClaim := { program := "ytkbcfknnieggbaagreatdoor", sum := "f9557b230ad217848fbd72edee5c1ad8a23bce1787e09d6955be57f1aa115d4a", func := "turnstone/turnstonelaw18.CoreRequests", spec := "coreRequests", inPlace := ["math/bits.Sub64", "math/bits.Add64", "maps.clone"], unfollowed := true, recurses := true, named := ["math/bits.divideError", "math/bits.overflowError", "internal/strconv.uint64pow10", "math/bits.deBruijn32tab", "math/bits.deBruijn64tab"], apart := false, laid := [("math/bits.deBruijn32tab", laid_math_bits_deBruijn32tab), ("math/bits.deBruijn64tab", laid_math_bits_deBruijn64tab), ("internal/strconv.uint64pow10", laid_internal_strconv_uint64pow10)] }
def CoreRequestsSaid : Prop := coreRequestsRow.holds Tryz.pinned (OpenSpec.ofChange coreRequestsSpec)

/-- ITS FALSE NEIGHBOUR: 'it returns false'. Refute it at one input. -/
def coreRequestsWrong : ChangeSpec := { name := "coreRequests", fn := fun _ => fun
  | [d1, d2] => { results := [.lit (.bool false)], args := [d1, d2] }
  | _ => none }
def CoreRequestsWrongFalsely : Prop := coreRequestsRow.holds Tryz.pinned (OpenSpec.ofChange coreRequestsWrong)

/-- 'turnstonelaw18.CoreWorks': WHATEVER THE INPUT: true; the input reads as it did. -/
def coreWorksSpec : ChangeSpec := { name := "coreWorks", fn := fun _ => fun
  | [d1, d2] => { results := [.lit (.bool true)], args := [d1, d2] }
  | _ => none }
def coreWorksRow : OpenClaim := { program := "ytkbcfknnieggbaagreatdoor", sum := "f9557b230ad217848fbd72edee5c1ad8a23bce1787e09d6955be57f1aa115d4a", func := "turnstone/turnstonelaw18.CoreWorks", spec := "coreWorks", inPlace := ["math/bits.Sub64", "math/bits.Add64", "maps.clone"], unfollowed := true, recurses := true, named := ["math/bits.divideError", "math/bits.overflowError", "internal/strconv.uint64pow10", "math/bits.deBruijn32tab", "math/bits.deBruijn64tab"], apart := false, laid := [("math/bits.deBruijn32tab", laid_math_bits_deBruijn32tab), ("math/bits.deBruijn64tab", laid_math_bits_deBruijn64tab), ("internal/strconv.uint64pow10", laid_internal_strconv_uint64pow10)] }
def CoreWorksSaid : Prop := coreWorksRow.holds Tryz.pinned (OpenSpec.ofChange coreWorksSpec)

/-- ITS FALSE NEIGHBOUR: 'it returns false'. Refute it at one input. -/
def coreWorksWrong : ChangeSpec := { name := "coreWorks", fn := fun _ => fun
  | [d1, d2] => { results := [.lit (.bool false)], args := [d1, d2] }
  | _ => none }
def CoreWorksWrongFalsely : Prop := coreWorksRow.holds Tryz.pinned (OpenSpec.ofChange coreWorksWrong)

/-- 'turnstonelaw18.CoreLow': WHATEVER THE INPUT: true; the input reads as it did. -/
def coreLowSpec : ChangeSpec := { name := "coreLow", fn := fun _ => fun
  | [d1, d2] => { results := [.lit (.bool true)], args := [d1, d2] }
  | _ => none }
def coreLowRow : OpenClaim := { program := "ytkbcfknnieggbaagreatdoor", sum := "f9557b230ad217848fbd72edee5c1ad8a23bce1787e09d6955be57f1aa115d4a", func := "turnstone/turnstonelaw18.CoreLow", spec := "coreLow", inPlace := ["math/bits.Sub64", "math/bits.Add64", "maps.clone"], unfollowed := true, recurses := true, named := ["math/bits.divideError", "math/bits.overflowError", "internal/strconv.uint64pow10", "math/bits.deBruijn32tab", "math/bits.deBruijn64tab"], apart := false, laid := [("math/bits.deBruijn32tab", laid_math_bits_deBruijn32tab), ("math/bits.deBruijn64tab", laid_math_bits_deBruijn64tab), ("internal/strconv.uint64pow10", laid_internal_strconv_uint64pow10)] }
def CoreLowSaid : Prop := coreLowRow.holds Tryz.pinned (OpenSpec.ofChange coreLowSpec)

/-- ITS FALSE NEIGHBOUR: 'it returns false'. Refute it at one input. -/
def coreLowWrong : ChangeSpec := { name := "coreLow", fn := fun _ => fun
  | [d1, d2] => { results := [.lit (.bool false)], args := [d1, d2] }
  | _ => none }
def CoreLowWrongFalsely : Prop := coreLowRow.holds Tryz.pinned (OpenSpec.ofChange coreLowWrong)

/-- 'turnstonelaw18.CoreHigh': WHATEVER THE INPUT: true; the input reads as it did. -/
def coreHighSpec : ChangeSpec := { name := "coreHigh", fn := fun _ => fun
  | [d1, d2] => { results := [.lit (.bool true)], args := [d1, d2] }
  | _ => none }
def coreHighRow : OpenClaim := { program := "ytkbcfknnieggbaagreatdoor", sum := "f9557b230ad217848fbd72edee5c1ad8a23bce1787e09d6955be57f1aa115d4a", func := "turnstone/turnstonelaw18.CoreHigh", spec := "coreHigh", inPlace := ["math/bits.Sub64", "math/bits.Add64", "maps.clone"], unfollowed := true, recurses := true, named := ["math/bits.divideError", "math/bits.overflowError", "internal/strconv.uint64pow10", "math/bits.deBruijn32tab", "math/bits.deBruijn64tab"], apart := false, laid := [("math/bits.deBruijn32tab", laid_math_bits_deBruijn32tab), ("math/bits.deBruijn64tab", laid_math_bits_deBruijn64tab), ("internal/strconv.uint64pow10", laid_internal_strconv_uint64pow10)] }
def CoreHighSaid : Prop := coreHighRow.holds Tryz.pinned (OpenSpec.ofChange coreHighSpec)

/-- ITS FALSE NEIGHBOUR: 'it returns false'. Refute it at one input. -/
def coreHighWrong : ChangeSpec := { name := "coreHigh", fn := fun _ => fun
  | [d1, d2] => { results := [.lit (.bool false)], args := [d1, d2] }
  | _ => none }
def CoreHighWrongFalsely : Prop := coreHighRow.holds Tryz.pinned (OpenSpec.ofChange coreHighWrong)

/-- 'turnstonelaw18.CoreRefuses': WHATEVER THE INPUT: true; the input reads as it did. -/
def coreRefusesSpec : ChangeSpec := { name := "coreRefuses", fn := fun _ => fun
  | [d1, d2] => { results := [.lit (.bool true)], args := [d1, d2] }
  | _ => none }
def coreRefusesRow : OpenClaim := { program := "ytkbcfknnieggbaagreatdoor", sum := "f9557b230ad217848fbd72edee5c1ad8a23bce1787e09d6955be57f1aa115d4a", func := "turnstone/turnstonelaw18.CoreRefuses", spec := "coreRefuses", inPlace := ["math/bits.Sub64", "math/bits.Add64", "maps.clone"], unfollowed := true, recurses := true, named := ["math/bits.divideError", "math/bits.overflowError", "internal/strconv.uint64pow10", "math/bits.deBruijn32tab", "math/bits.deBruijn64tab"], apart := false, laid := [("math/bits.deBruijn32tab", laid_math_bits_deBruijn32tab), ("math/bits.deBruijn64tab", laid_math_bits_deBruijn64tab), ("internal/strconv.uint64pow10", laid_internal_strconv_uint64pow10)] }
def CoreRefusesSaid : Prop := coreRefusesRow.holds Tryz.pinned (OpenSpec.ofChange coreRefusesSpec)

/-- ITS FALSE NEIGHBOUR: 'it returns false'. Refute it at one input. -/
def coreRefusesWrong : ChangeSpec := { name := "coreRefuses", fn := fun _ => fun
  | [d1, d2] => { results := [.lit (.bool false)], args := [d1, d2] }
  | _ => none }
def CoreRefusesWrongFalsely : Prop := coreRefusesRow.holds Tryz.pinned (OpenSpec.ofChange coreRefusesWrong)

/-- 'turnstonelaw18.CoreClones': WHATEVER THE INPUT: true; the input reads as it did. -/
def coreClonesSpec : ChangeSpec := { name := "coreClones", fn := fun _ => fun
  | [d1, d2, d3] => { results := [.lit (.bool true)], args := [d1, d2, d3] }
  | _ => none }
def coreClonesRow : OpenClaim := { program := "ytkbcfknnieggbaagreatdoor", sum := "f9557b230ad217848fbd72edee5c1ad8a23bce1787e09d6955be57f1aa115d4a", func := "turnstone/turnstonelaw18.CoreClones", spec := "coreClones", inPlace := ["math/bits.Sub64", "math/bits.Add64", "maps.clone"], unfollowed := true, recurses := true, named := ["math/bits.divideError", "math/bits.overflowError", "internal/strconv.uint64pow10", "math/bits.deBruijn32tab", "math/bits.deBruijn64tab"], apart := false, laid := [("math/bits.deBruijn32tab", laid_math_bits_deBruijn32tab), ("math/bits.deBruijn64tab", laid_math_bits_deBruijn64tab), ("internal/strconv.uint64pow10", laid_internal_strconv_uint64pow10)] }
def CoreClonesSaid : Prop := coreClonesRow.holds Tryz.pinned (OpenSpec.ofChange coreClonesSpec)

/-- ITS FALSE NEIGHBOUR: 'it returns false'. Refute it at one input. -/
def coreClonesWrong : ChangeSpec := { name := "coreClones", fn := fun _ => fun
  | [d1, d2, d3] => { results := [.lit (.bool false)], args := [d1, d2, d3] }
  | _ => none }
def CoreClonesWrongFalsely : Prop := coreClonesRow.holds Tryz.pinned (OpenSpec.ofChange coreClonesWrong)

/-- 'turnstonelaw18.CoreShifts': WHATEVER THE INPUT: true; the input reads as it did. -/
def coreShiftsSpec : ChangeSpec := { name := "coreShifts", fn := fun _ => fun
  | [d1, d2, d3] => { results := [.lit (.bool true)], args := [d1, d2, d3] }
  | _ => none }
def coreShiftsRow : OpenClaim := { program := "ytkbcfknnieggbaagreatdoor", sum := "f9557b230ad217848fbd72edee5c1ad8a23bce1787e09d6955be57f1aa115d4a", func := "turnstone/turnstonelaw18.CoreShifts", spec := "coreShifts", inPlace := ["math/bits.Sub64", "math/bits.Add64", "maps.clone"], unfollowed := true, recurses := true, named := ["math/bits.divideError", "math/bits.overflowError", "internal/strconv.uint64pow10", "math/bits.deBruijn32tab", "math/bits.deBruijn64tab"], apart := false, laid := [("math/bits.deBruijn32tab", laid_math_bits_deBruijn32tab), ("math/bits.deBruijn64tab", laid_math_bits_deBruijn64tab), ("internal/strconv.uint64pow10", laid_internal_strconv_uint64pow10)] }
def CoreShiftsSaid : Prop := coreShiftsRow.holds Tryz.pinned (OpenSpec.ofChange coreShiftsSpec)

/-- ITS FALSE NEIGHBOUR: 'it returns false'. Refute it at one input. -/
def coreShiftsWrong : ChangeSpec := { name := "coreShifts", fn := fun _ => fun
  | [d1, d2, d3] => { results := [.lit (.bool false)], args := [d1, d2, d3] }
  | _ => none }
def CoreShiftsWrongFalsely : Prop := coreShiftsRow.holds Tryz.pinned (OpenSpec.ofChange coreShiftsWrong)

/- THE SECOND FORM. 'bulk': how many values and letters a reading holds, each counted each time it is reached (what is shared counts as often as it is met; a slice's spare places count too). A statement '..UptoSaid' is the law's where the arguments, and the package variables that the reading takes, are together of bulk at most 1048576: NARROWER than '..Said'. Prove '..Said' where nothing that the law and all that it calls make is longer than what came in: it says more and counts as full. Else prove '..UptoSaid'. A law counts once. -/
mutual
def uptoBulk {H : Type} : DataW H → Nat
  | .lit (.string bytes) => bytes.length + 1
  | .lit _ => 1
  | .nil => 1
  | .ptr d => uptoBulk d + 1
  | .slice elems spare => uptoBulkAll elems + uptoBulkAll spare + 1
  | .agg parts => uptoBulkAll parts + 1
  | .iface _ d => uptoBulk d + 1
  | .map entries => uptoBulkEntries entries + 1
  | .held _ => 1
def uptoBulkAll {H : Type} : List (DataW H) → Nat
  | [] => 0
  | d :: r => uptoBulk d + uptoBulkAll r
def uptoBulkEntries {H : Type} : List (Lit × DataW H) → Nat
  | [] => 0
  | x :: r => uptoBulkEntry x + uptoBulkEntries r
def uptoBulkEntry {H : Type} : Lit × DataW H → Nat
  | (.string bytes, d) => bytes.length + uptoBulk d + 1
  | (_, d) => uptoBulk d + 1
 end
def uptoSmall : (H : Type) → List (DataW H) → Bool := fun _ ds => decide (uptoBulkAll ds ≤ 1048576)
def OpenSpec.upto (s : _root_.Go.ChangeSpec) : _root_.Go.OpenSpec := { _root_.Go.OpenSpec.ofChange s with cond := some uptoSmall }

/-- 'turnstonelaw17.SettleRuns', WHERE WHAT IT READS IS OF BULK AT MOST 1048576: true; the input reads as it did. -/
def settleRunsUptoRow : OpenClaim := { program := "ytkbcfknnieggbaagreatdoor", sum := "f9557b230ad217848fbd72edee5c1ad8a23bce1787e09d6955be57f1aa115d4a", func := "turnstone/turnstonelaw17.SettleRuns", spec := "settleRuns", inPlace := ["math/bits.Add64", "math/bits.Sub64"], unfollowed := true, recurses := true, named := ["math/bits.divideError", "math/bits.overflowError", "internal/strconv.uint64pow10", "math/bits.deBruijn32tab", "math/bits.deBruijn64tab"], apart := false, laid := [("math/bits.deBruijn32tab", laid_math_bits_deBruijn32tab), ("math/bits.deBruijn64tab", laid_math_bits_deBruijn64tab), ("internal/strconv.uint64pow10", laid_internal_strconv_uint64pow10)], narrowed := true }
def SettleRunsUptoSaid : Prop := settleRunsUptoRow.holds Tryz.pinned (OpenSpec.upto settleRunsSpec)

/-- 'turnstonelaw18.CoreRequests', WHERE WHAT IT READS IS OF BULK AT MOST 1048576: true; the input reads as it did. -/
def coreRequestsUptoRow : OpenClaim := { program := "ytkbcfknnieggbaagreatdoor", sum := "f9557b230ad217848fbd72edee5c1ad8a23bce1787e09d6955be57f1aa115d4a", func := "turnstone/turnstonelaw18.CoreRequests", spec := "coreRequests", inPlace := ["math/bits.Sub64", "math/bits.Add64", "maps.clone"], unfollowed := true, recurses := true, named := ["math/bits.divideError", "math/bits.overflowError", "internal/strconv.uint64pow10", "math/bits.deBruijn32tab", "math/bits.deBruijn64tab"], apart := false, laid := [("math/bits.deBruijn32tab", laid_math_bits_deBruijn32tab), ("math/bits.deBruijn64tab", laid_math_bits_deBruijn64tab), ("internal/strconv.uint64pow10", laid_internal_strconv_uint64pow10)], narrowed := true }
def CoreRequestsUptoSaid : Prop := coreRequestsUptoRow.holds Tryz.pinned (OpenSpec.upto coreRequestsSpec)

/-- 'turnstonelaw18.CoreWorks', WHERE WHAT IT READS IS OF BULK AT MOST 1048576: true; the input reads as it did. -/
def coreWorksUptoRow : OpenClaim := { program := "ytkbcfknnieggbaagreatdoor", sum := "f9557b230ad217848fbd72edee5c1ad8a23bce1787e09d6955be57f1aa115d4a", func := "turnstone/turnstonelaw18.CoreWorks", spec := "coreWorks", inPlace := ["math/bits.Sub64", "math/bits.Add64", "maps.clone"], unfollowed := true, recurses := true, named := ["math/bits.divideError", "math/bits.overflowError", "internal/strconv.uint64pow10", "math/bits.deBruijn32tab", "math/bits.deBruijn64tab"], apart := false, laid := [("math/bits.deBruijn32tab", laid_math_bits_deBruijn32tab), ("math/bits.deBruijn64tab", laid_math_bits_deBruijn64tab), ("internal/strconv.uint64pow10", laid_internal_strconv_uint64pow10)], narrowed := true }
def CoreWorksUptoSaid : Prop := coreWorksUptoRow.holds Tryz.pinned (OpenSpec.upto coreWorksSpec)

/-- 'turnstonelaw18.CoreLow', WHERE WHAT IT READS IS OF BULK AT MOST 1048576: true; the input reads as it did. -/
def coreLowUptoRow : OpenClaim := { program := "ytkbcfknnieggbaagreatdoor", sum := "f9557b230ad217848fbd72edee5c1ad8a23bce1787e09d6955be57f1aa115d4a", func := "turnstone/turnstonelaw18.CoreLow", spec := "coreLow", inPlace := ["math/bits.Sub64", "math/bits.Add64", "maps.clone"], unfollowed := true, recurses := true, named := ["math/bits.divideError", "math/bits.overflowError", "internal/strconv.uint64pow10", "math/bits.deBruijn32tab", "math/bits.deBruijn64tab"], apart := false, laid := [("math/bits.deBruijn32tab", laid_math_bits_deBruijn32tab), ("math/bits.deBruijn64tab", laid_math_bits_deBruijn64tab), ("internal/strconv.uint64pow10", laid_internal_strconv_uint64pow10)], narrowed := true }
def CoreLowUptoSaid : Prop := coreLowUptoRow.holds Tryz.pinned (OpenSpec.upto coreLowSpec)

/-- 'turnstonelaw18.CoreHigh', WHERE WHAT IT READS IS OF BULK AT MOST 1048576: true; the input reads as it did. -/
def coreHighUptoRow : OpenClaim := { program := "ytkbcfknnieggbaagreatdoor", sum := "f9557b230ad217848fbd72edee5c1ad8a23bce1787e09d6955be57f1aa115d4a", func := "turnstone/turnstonelaw18.CoreHigh", spec := "coreHigh", inPlace := ["math/bits.Sub64", "math/bits.Add64", "maps.clone"], unfollowed := true, recurses := true, named := ["math/bits.divideError", "math/bits.overflowError", "internal/strconv.uint64pow10", "math/bits.deBruijn32tab", "math/bits.deBruijn64tab"], apart := false, laid := [("math/bits.deBruijn32tab", laid_math_bits_deBruijn32tab), ("math/bits.deBruijn64tab", laid_math_bits_deBruijn64tab), ("internal/strconv.uint64pow10", laid_internal_strconv_uint64pow10)], narrowed := true }
def CoreHighUptoSaid : Prop := coreHighUptoRow.holds Tryz.pinned (OpenSpec.upto coreHighSpec)

/-- 'turnstonelaw18.CoreRefuses', WHERE WHAT IT READS IS OF BULK AT MOST 1048576: true; the input reads as it did. -/
def coreRefusesUptoRow : OpenClaim := { program := "ytkbcfknnieggbaagreatdoor", sum := "f9557b230ad217848fbd72edee5c1ad8a23bce1787e09d6955be57f1aa115d4a", func := "turnstone/turnstonelaw18.CoreRefuses", spec := "coreRefuses", inPlace := ["math/bits.Sub64", "math/bits.Add64", "maps.clone"], unfollowed := true, recurses := true, named := ["math/bits.divideError", "math/bits.overflowError", "internal/strconv.uint64pow10", "math/bits.deBruijn32tab", "math/bits.deBruijn64tab"], apart := false, laid := [("math/bits.deBruijn32tab", laid_math_bits_deBruijn32tab), ("math/bits.deBruijn64tab", laid_math_bits_deBruijn64tab), ("internal/strconv.uint64pow10", laid_internal_strconv_uint64pow10)], narrowed := true }
def CoreRefusesUptoSaid : Prop := coreRefusesUptoRow.holds Tryz.pinned (OpenSpec.upto coreRefusesSpec)

/-- 'turnstonelaw18.CoreClones', WHERE WHAT IT READS IS OF BULK AT MOST 1048576: true; the input reads as it did. -/
def coreClonesUptoRow : OpenClaim := { program := "ytkbcfknnieggbaagreatdoor", sum := "f9557b230ad217848fbd72edee5c1ad8a23bce1787e09d6955be57f1aa115d4a", func := "turnstone/turnstonelaw18.CoreClones", spec := "coreClones", inPlace := ["math/bits.Sub64", "math/bits.Add64", "maps.clone"], unfollowed := true, recurses := true, named := ["math/bits.divideError", "math/bits.overflowError", "internal/strconv.uint64pow10", "math/bits.deBruijn32tab", "math/bits.deBruijn64tab"], apart := false, laid := [("math/bits.deBruijn32tab", laid_math_bits_deBruijn32tab), ("math/bits.deBruijn64tab", laid_math_bits_deBruijn64tab), ("internal/strconv.uint64pow10", laid_internal_strconv_uint64pow10)], narrowed := true }
def CoreClonesUptoSaid : Prop := coreClonesUptoRow.holds Tryz.pinned (OpenSpec.upto coreClonesSpec)

/-- 'turnstonelaw18.CoreShifts', WHERE WHAT IT READS IS OF BULK AT MOST 1048576: true; the input reads as it did. -/
def coreShiftsUptoRow : OpenClaim := { program := "ytkbcfknnieggbaagreatdoor", sum := "f9557b230ad217848fbd72edee5c1ad8a23bce1787e09d6955be57f1aa115d4a", func := "turnstone/turnstonelaw18.CoreShifts", spec := "coreShifts", inPlace := ["math/bits.Sub64", "math/bits.Add64", "maps.clone"], unfollowed := true, recurses := true, named := ["math/bits.divideError", "math/bits.overflowError", "internal/strconv.uint64pow10", "math/bits.deBruijn32tab", "math/bits.deBruijn64tab"], apart := false, laid := [("math/bits.deBruijn32tab", laid_math_bits_deBruijn32tab), ("math/bits.deBruijn64tab", laid_math_bits_deBruijn64tab), ("internal/strconv.uint64pow10", laid_internal_strconv_uint64pow10)], narrowed := true }
def CoreShiftsUptoSaid : Prop := coreShiftsUptoRow.holds Tryz.pinned (OpenSpec.upto coreShiftsSpec)

end Rows
end Go.Proofs.YtkbcfknnieggbaaGreatDoor
