/-
  No cell of these rows narrows 'for every input' (looked for: loops, veiled, ifaces, maps, wideKeys, modest, calm, conditions, laid).
  DERIVED. THE GIVEN ROWS OF THIS SEAT. 10 by the template 'for every input the law returns true; each argument reads behind the call as it read before'; 0 by the template 'total and deterministic' (their statements: YtjooegonmdmajaaTotals.lean).
  GIVEN WITH THE SEED: the statements are not yours to turn. If you find one false, say at which input.
  Laid BY PROGRAM, IN A SANDBOX (cutbox-rows.mjs): the forced cells as the released guide's own fill.sh prints them over the translation 192bcc34616f61d9… (all of the seat's roots in one cut). By AI agents, Wed Nov 11 2026. No macro, syntax, notation, axiom, sorry.
-/
import Derived.Test.YtjooegonmdmajaaChecked
import GoSem.Claim
import GoSem.ClaimJoined
import GoSem.ClaimMapViews
import Derived.JoinedTies
import Derived.KernelRfl
namespace Go.Proofs.Ytjooegonmdmajaa
/- THE CELL 'sum', in the pinned program and in every row, IS THE sha256 OF THE DUMP (.gsa) THAT YtjooegonmdmajaaProg.lean LOADS. Nothing in Lean hashes anything: it is a label: what it is worth is what the hold of that sum in a sandbox is worth. -/
noncomputable def Try.pinned : Pinned := { name := "ytjooegonmdmajaa", sum := "192bcc34616f61d9015c39add98ae33a70aa6a8d64998ccf300eb2d3eb07de7f", checked := Try.checked }
namespace Rows
def none {H : Type} : Left H := { results := [], args := [] }

/-- 'turnstonelaw06.RbtreeFolds': WHATEVER THE INPUT: true; the input reads as it did. -/
def rbtreeFoldsSpec : ChangeSpec := { name := "rbtreeFolds", fn := fun _ => fun
  | [d1, d2] => { results := [.lit (.bool true)], args := [d1, d2] }
  | _ => none }
def rbtreeFoldsRow : OpenClaim := { program := "ytjooegonmdmajaa", sum := "192bcc34616f61d9015c39add98ae33a70aa6a8d64998ccf300eb2d3eb07de7f", func := "turnstone/turnstonelaw06.RbtreeFolds", spec := "rbtreeFolds", unfollowed := true, recurses := true, apart := false }
def RbtreeFoldsSaid : Prop := rbtreeFoldsRow.holds Try.pinned (OpenSpec.ofChange rbtreeFoldsSpec)

/-- ITS FALSE NEIGHBOUR: 'it returns false'. Refute it at one input. -/
def rbtreeFoldsWrong : ChangeSpec := { name := "rbtreeFolds", fn := fun _ => fun
  | [d1, d2] => { results := [.lit (.bool false)], args := [d1, d2] }
  | _ => none }
def RbtreeFoldsWrongFalsely : Prop := rbtreeFoldsRow.holds Try.pinned (OpenSpec.ofChange rbtreeFoldsWrong)

/-- 'turnstonelaw01.WideDivides': WHATEVER THE INPUT: true; the input reads as it did. -/
def wideDividesSpec : ChangeSpec := { name := "wideDivides", fn := fun _ => fun
  | [d1, d2] => { results := [.lit (.bool true)], args := [d1, d2] }
  | _ => none }
def wideDividesRow : OpenClaim := { program := "ytjooegonmdmajaa", sum := "192bcc34616f61d9015c39add98ae33a70aa6a8d64998ccf300eb2d3eb07de7f", func := "turnstone/turnstonelaw01.WideDivides", spec := "wideDivides", inPlace := ["math/bits.Sub64", "math/bits.Add64"], named := ["math/bits.divideError", "math/bits.overflowError"], apart := false }
def WideDividesSaid : Prop := wideDividesRow.holds Try.pinned (OpenSpec.ofChange wideDividesSpec)

/-- ITS FALSE NEIGHBOUR: 'it returns false'. Refute it at one input. -/
def wideDividesWrong : ChangeSpec := { name := "wideDivides", fn := fun _ => fun
  | [d1, d2] => { results := [.lit (.bool false)], args := [d1, d2] }
  | _ => none }
def WideDividesWrongFalsely : Prop := wideDividesRow.holds Try.pinned (OpenSpec.ofChange wideDividesWrong)

/-- 'turnstonelaw01.WideSums': WHATEVER THE INPUT: true; the input reads as it did. -/
def wideSumsSpec : ChangeSpec := { name := "wideSums", fn := fun _ => fun
  | [d] => { results := [.lit (.bool true)], args := [d] }
  | _ => none }
def wideSumsRow : OpenClaim := { program := "ytjooegonmdmajaa", sum := "192bcc34616f61d9015c39add98ae33a70aa6a8d64998ccf300eb2d3eb07de7f", func := "turnstone/turnstonelaw01.WideSums", spec := "wideSums", inPlace := ["math/bits.Sub64", "math/bits.Add64"], named := ["math/bits.divideError", "math/bits.overflowError"], apart := false }
def WideSumsSaid : Prop := wideSumsRow.holds Try.pinned (OpenSpec.ofChange wideSumsSpec)

/-- ITS FALSE NEIGHBOUR: 'it returns false'. Refute it at one input. -/
def wideSumsWrong : ChangeSpec := { name := "wideSums", fn := fun _ => fun
  | [d] => { results := [.lit (.bool false)], args := [d] }
  | _ => none }
def WideSumsWrongFalsely : Prop := wideSumsRow.holds Try.pinned (OpenSpec.ofChange wideSumsWrong)

/-- 'turnstonelaw06.RbtreeDepth': WHATEVER THE INPUT: true; the input reads as it did. -/
def rbtreeDepthSpec : ChangeSpec := { name := "rbtreeDepth", fn := fun _ => fun
  | [d] => { results := [.lit (.bool true)], args := [d] }
  | _ => none }
def rbtreeDepthRow : OpenClaim := { program := "ytjooegonmdmajaa", sum := "192bcc34616f61d9015c39add98ae33a70aa6a8d64998ccf300eb2d3eb07de7f", func := "turnstone/turnstonelaw06.RbtreeDepth", spec := "rbtreeDepth", unfollowed := true, recurses := true, apart := false }
def RbtreeDepthSaid : Prop := rbtreeDepthRow.holds Try.pinned (OpenSpec.ofChange rbtreeDepthSpec)

/-- ITS FALSE NEIGHBOUR: 'it returns false'. Refute it at one input. -/
def rbtreeDepthWrong : ChangeSpec := { name := "rbtreeDepth", fn := fun _ => fun
  | [d] => { results := [.lit (.bool false)], args := [d] }
  | _ => none }
def RbtreeDepthWrongFalsely : Prop := rbtreeDepthRow.holds Try.pinned (OpenSpec.ofChange rbtreeDepthWrong)

/-- 'turnstonelaw01.WideOrders': WHATEVER THE INPUT: true; the input reads as it did. -/
def wideOrdersSpec : ChangeSpec := { name := "wideOrders", fn := fun _ => fun
  | [d1, d2, d3] => { results := [.lit (.bool true)], args := [d1, d2, d3] }
  | _ => none }
def wideOrdersRow : OpenClaim := { program := "ytjooegonmdmajaa", sum := "192bcc34616f61d9015c39add98ae33a70aa6a8d64998ccf300eb2d3eb07de7f", func := "turnstone/turnstonelaw01.WideOrders", spec := "wideOrders", inPlace := ["math/bits.Sub64", "math/bits.Add64"], named := ["math/bits.divideError", "math/bits.overflowError"], apart := false }
def WideOrdersSaid : Prop := wideOrdersRow.holds Try.pinned (OpenSpec.ofChange wideOrdersSpec)

/-- ITS FALSE NEIGHBOUR: 'it returns false'. Refute it at one input. -/
def wideOrdersWrong : ChangeSpec := { name := "wideOrders", fn := fun _ => fun
  | [d1, d2, d3] => { results := [.lit (.bool false)], args := [d1, d2, d3] }
  | _ => none }
def WideOrdersWrongFalsely : Prop := wideOrdersRow.holds Try.pinned (OpenSpec.ofChange wideOrdersWrong)

/-- 'turnstonelaw01.WideReckons': WHATEVER THE INPUT: true; the input reads as it did. -/
def wideReckonsSpec : ChangeSpec := { name := "wideReckons", fn := fun _ => fun
  | [d1, d2, d3] => { results := [.lit (.bool true)], args := [d1, d2, d3] }
  | _ => none }
def wideReckonsRow : OpenClaim := { program := "ytjooegonmdmajaa", sum := "192bcc34616f61d9015c39add98ae33a70aa6a8d64998ccf300eb2d3eb07de7f", func := "turnstone/turnstonelaw01.WideReckons", spec := "wideReckons", inPlace := ["math/bits.Sub64", "math/bits.Add64"], named := ["math/bits.divideError", "math/bits.overflowError"], apart := false }
def WideReckonsSaid : Prop := wideReckonsRow.holds Try.pinned (OpenSpec.ofChange wideReckonsSpec)

/-- ITS FALSE NEIGHBOUR: 'it returns false'. Refute it at one input. -/
def wideReckonsWrong : ChangeSpec := { name := "wideReckons", fn := fun _ => fun
  | [d1, d2, d3] => { results := [.lit (.bool false)], args := [d1, d2, d3] }
  | _ => none }
def WideReckonsWrongFalsely : Prop := wideReckonsRow.holds Try.pinned (OpenSpec.ofChange wideReckonsWrong)

/-- 'turnstonelaw01.WideTurns': WHATEVER THE INPUT: true; the input reads as it did. -/
def wideTurnsSpec : ChangeSpec := { name := "wideTurns", fn := fun _ => fun
  | [d1, d2, d3, d4] => { results := [.lit (.bool true)], args := [d1, d2, d3, d4] }
  | _ => none }
def wideTurnsRow : OpenClaim := { program := "ytjooegonmdmajaa", sum := "192bcc34616f61d9015c39add98ae33a70aa6a8d64998ccf300eb2d3eb07de7f", func := "turnstone/turnstonelaw01.WideTurns", spec := "wideTurns", inPlace := ["math/bits.Sub64", "math/bits.Add64"], named := ["math/bits.divideError", "math/bits.overflowError"], apart := false }
def WideTurnsSaid : Prop := wideTurnsRow.holds Try.pinned (OpenSpec.ofChange wideTurnsSpec)

/-- ITS FALSE NEIGHBOUR: 'it returns false'. Refute it at one input. -/
def wideTurnsWrong : ChangeSpec := { name := "wideTurns", fn := fun _ => fun
  | [d1, d2, d3, d4] => { results := [.lit (.bool false)], args := [d1, d2, d3, d4] }
  | _ => none }
def WideTurnsWrongFalsely : Prop := wideTurnsRow.holds Try.pinned (OpenSpec.ofChange wideTurnsWrong)

/-- 'turnstonelaw06.RbtreePlays': WHATEVER THE INPUT: true; the input reads as it did. -/
def rbtreePlaysSpec : ChangeSpec := { name := "rbtreePlays", fn := fun _ => fun
  | [d1, d2] => { results := [.lit (.bool true)], args := [d1, d2] }
  | _ => none }
def rbtreePlaysRow : OpenClaim := { program := "ytjooegonmdmajaa", sum := "192bcc34616f61d9015c39add98ae33a70aa6a8d64998ccf300eb2d3eb07de7f", func := "turnstone/turnstonelaw06.RbtreePlays", spec := "rbtreePlays", unfollowed := true, recurses := true, apart := false }
def RbtreePlaysSaid : Prop := rbtreePlaysRow.holds Try.pinned (OpenSpec.ofChange rbtreePlaysSpec)

/-- ITS FALSE NEIGHBOUR: 'it returns false'. Refute it at one input. -/
def rbtreePlaysWrong : ChangeSpec := { name := "rbtreePlays", fn := fun _ => fun
  | [d1, d2] => { results := [.lit (.bool false)], args := [d1, d2] }
  | _ => none }
def RbtreePlaysWrongFalsely : Prop := rbtreePlaysRow.holds Try.pinned (OpenSpec.ofChange rbtreePlaysWrong)

/-- 'turnstonelaw06.RbtreeNone': WHATEVER THE INPUT: true; the input reads as it did. -/
def rbtreeNoneSpec : ChangeSpec := { name := "rbtreeNone", fn := fun _ => fun
  | [] => { results := [.lit (.bool true)], args := [] }
  | _ => none }
def rbtreeNoneRow : OpenClaim := { program := "ytjooegonmdmajaa", sum := "192bcc34616f61d9015c39add98ae33a70aa6a8d64998ccf300eb2d3eb07de7f", func := "turnstone/turnstonelaw06.RbtreeNone", spec := "rbtreeNone", unfollowed := true, recurses := true, apart := false }
def RbtreeNoneSaid : Prop := rbtreeNoneRow.holds Try.pinned (OpenSpec.ofChange rbtreeNoneSpec)

/-- ITS FALSE NEIGHBOUR: 'it returns false'. Refute it at one input. -/
def rbtreeNoneWrong : ChangeSpec := { name := "rbtreeNone", fn := fun _ => fun
  | [] => { results := [.lit (.bool false)], args := [] }
  | _ => none }
def RbtreeNoneWrongFalsely : Prop := rbtreeNoneRow.holds Try.pinned (OpenSpec.ofChange rbtreeNoneWrong)

/-- 'turnstonelaw06.RbtreeSorts': WHATEVER THE INPUT: true; the input reads as it did. -/
def rbtreeSortsSpec : ChangeSpec := { name := "rbtreeSorts", fn := fun _ => fun
  | [d1, d2] => { results := [.lit (.bool true)], args := [d1, d2] }
  | _ => none }
def rbtreeSortsRow : OpenClaim := { program := "ytjooegonmdmajaa", sum := "192bcc34616f61d9015c39add98ae33a70aa6a8d64998ccf300eb2d3eb07de7f", func := "turnstone/turnstonelaw06.RbtreeSorts", spec := "rbtreeSorts", unfollowed := true, recurses := true, apart := false }
def RbtreeSortsSaid : Prop := rbtreeSortsRow.holds Try.pinned (OpenSpec.ofChange rbtreeSortsSpec)

/-- ITS FALSE NEIGHBOUR: 'it returns false'. Refute it at one input. -/
def rbtreeSortsWrong : ChangeSpec := { name := "rbtreeSorts", fn := fun _ => fun
  | [d1, d2] => { results := [.lit (.bool false)], args := [d1, d2] }
  | _ => none }
def RbtreeSortsWrongFalsely : Prop := rbtreeSortsRow.holds Try.pinned (OpenSpec.ofChange rbtreeSortsWrong)

/- THE SECOND FORM. 'bulk': how many values and letters a reading holds, each counted each time it is reached (what is shared counts as often as it is met; a slice's spare places count too). A statement '..UptoSaid' is the law's where the arguments, and the package variables that the reading takes, are together of bulk at most 1048576: NARROWER than '..Said'. Prove '..Said' where nothing that the law and all that it calls make is longer than what came in: it says more and counts as full. Else prove '..UptoSaid'. A law counts once. -/
mutual
def uptoBulk {H : Type} : DataW H → Nat
  | .lit (.string bytes) => bytes.length + 1
  | .lit _ => 1
  | .nil => 1
  | .ptr d => uptoBulk d + 1
  | .slice elems spare => uptoBulkAll elems + uptoBulkAll spare + 1
  | .agg parts => uptoBulkAll parts + 1
  | .iface _ d => uptoBulk d + 1
  | .map entries => uptoBulkEntries entries + 1
  | .held _ => 1
def uptoBulkAll {H : Type} : List (DataW H) → Nat
  | [] => 0
  | d :: r => uptoBulk d + uptoBulkAll r
def uptoBulkEntries {H : Type} : List (Lit × DataW H) → Nat
  | [] => 0
  | x :: r => uptoBulkEntry x + uptoBulkEntries r
def uptoBulkEntry {H : Type} : Lit × DataW H → Nat
  | (.string bytes, d) => bytes.length + uptoBulk d + 1
  | (_, d) => uptoBulk d + 1
 end
def uptoSmall : (H : Type) → List (DataW H) → Bool := fun _ ds => decide (uptoBulkAll ds ≤ 1048576)
def OpenSpec.upto (s : _root_.Go.ChangeSpec) : _root_.Go.OpenSpec := { _root_.Go.OpenSpec.ofChange s with cond := some uptoSmall }

/-- 'turnstonelaw06.RbtreeFolds', WHERE WHAT IT READS IS OF BULK AT MOST 1048576: true; the input reads as it did. -/
def rbtreeFoldsUptoRow : OpenClaim := { program := "ytjooegonmdmajaa", sum := "192bcc34616f61d9015c39add98ae33a70aa6a8d64998ccf300eb2d3eb07de7f", func := "turnstone/turnstonelaw06.RbtreeFolds", spec := "rbtreeFolds", unfollowed := true, recurses := true, apart := false, narrowed := true }
def RbtreeFoldsUptoSaid : Prop := rbtreeFoldsUptoRow.holds Try.pinned (OpenSpec.upto rbtreeFoldsSpec)

/-- 'turnstonelaw01.WideDivides', WHERE WHAT IT READS IS OF BULK AT MOST 1048576: true; the input reads as it did. -/
def wideDividesUptoRow : OpenClaim := { program := "ytjooegonmdmajaa", sum := "192bcc34616f61d9015c39add98ae33a70aa6a8d64998ccf300eb2d3eb07de7f", func := "turnstone/turnstonelaw01.WideDivides", spec := "wideDivides", inPlace := ["math/bits.Sub64", "math/bits.Add64"], named := ["math/bits.divideError", "math/bits.overflowError"], apart := false, narrowed := true }
def WideDividesUptoSaid : Prop := wideDividesUptoRow.holds Try.pinned (OpenSpec.upto wideDividesSpec)

/-- 'turnstonelaw01.WideSums', WHERE WHAT IT READS IS OF BULK AT MOST 1048576: true; the input reads as it did. -/
def wideSumsUptoRow : OpenClaim := { program := "ytjooegonmdmajaa", sum := "192bcc34616f61d9015c39add98ae33a70aa6a8d64998ccf300eb2d3eb07de7f", func := "turnstone/turnstonelaw01.WideSums", spec := "wideSums", inPlace := ["math/bits.Sub64", "math/bits.Add64"], named := ["math/bits.divideError", "math/bits.overflowError"], apart := false, narrowed := true }
def WideSumsUptoSaid : Prop := wideSumsUptoRow.holds Try.pinned (OpenSpec.upto wideSumsSpec)

/-- 'turnstonelaw06.RbtreeDepth', WHERE WHAT IT READS IS OF BULK AT MOST 1048576: true; the input reads as it did. -/
def rbtreeDepthUptoRow : OpenClaim := { program := "ytjooegonmdmajaa", sum := "192bcc34616f61d9015c39add98ae33a70aa6a8d64998ccf300eb2d3eb07de7f", func := "turnstone/turnstonelaw06.RbtreeDepth", spec := "rbtreeDepth", unfollowed := true, recurses := true, apart := false, narrowed := true }
def RbtreeDepthUptoSaid : Prop := rbtreeDepthUptoRow.holds Try.pinned (OpenSpec.upto rbtreeDepthSpec)

/-- 'turnstonelaw01.WideOrders', WHERE WHAT IT READS IS OF BULK AT MOST 1048576: true; the input reads as it did. -/
def wideOrdersUptoRow : OpenClaim := { program := "ytjooegonmdmajaa", sum := "192bcc34616f61d9015c39add98ae33a70aa6a8d64998ccf300eb2d3eb07de7f", func := "turnstone/turnstonelaw01.WideOrders", spec := "wideOrders", inPlace := ["math/bits.Sub64", "math/bits.Add64"], named := ["math/bits.divideError", "math/bits.overflowError"], apart := false, narrowed := true }
def WideOrdersUptoSaid : Prop := wideOrdersUptoRow.holds Try.pinned (OpenSpec.upto wideOrdersSpec)

/-- 'turnstonelaw01.WideReckons', WHERE WHAT IT READS IS OF BULK AT MOST 1048576: true; the input reads as it did. -/
def wideReckonsUptoRow : OpenClaim := { program := "ytjooegonmdmajaa", sum := "192bcc34616f61d9015c39add98ae33a70aa6a8d64998ccf300eb2d3eb07de7f", func := "turnstone/turnstonelaw01.WideReckons", spec := "wideReckons", inPlace := ["math/bits.Sub64", "math/bits.Add64"], named := ["math/bits.divideError", "math/bits.overflowError"], apart := false, narrowed := true }
def WideReckonsUptoSaid : Prop := wideReckonsUptoRow.holds Try.pinned (OpenSpec.upto wideReckonsSpec)

/-- 'turnstonelaw01.WideTurns', WHERE WHAT IT READS IS OF BULK AT MOST 1048576: true; the input reads as it did. -/
def wideTurnsUptoRow : OpenClaim := { program := "ytjooegonmdmajaa", sum := "192bcc34616f61d9015c39add98ae33a70aa6a8d64998ccf300eb2d3eb07de7f", func := "turnstone/turnstonelaw01.WideTurns", spec := "wideTurns", inPlace := ["math/bits.Sub64", "math/bits.Add64"], named := ["math/bits.divideError", "math/bits.overflowError"], apart := false, narrowed := true }
def WideTurnsUptoSaid : Prop := wideTurnsUptoRow.holds Try.pinned (OpenSpec.upto wideTurnsSpec)

/-- 'turnstonelaw06.RbtreePlays', WHERE WHAT IT READS IS OF BULK AT MOST 1048576: true; the input reads as it did. -/
def rbtreePlaysUptoRow : OpenClaim := { program := "ytjooegonmdmajaa", sum := "192bcc34616f61d9015c39add98ae33a70aa6a8d64998ccf300eb2d3eb07de7f", func := "turnstone/turnstonelaw06.RbtreePlays", spec := "rbtreePlays", unfollowed := true, recurses := true, apart := false, narrowed := true }
def RbtreePlaysUptoSaid : Prop := rbtreePlaysUptoRow.holds Try.pinned (OpenSpec.upto rbtreePlaysSpec)

/-- 'turnstonelaw06.RbtreeNone', WHERE WHAT IT READS IS OF BULK AT MOST 1048576: true; the input reads as it did. -/
def rbtreeNoneUptoRow : OpenClaim := { program := "ytjooegonmdmajaa", sum := "192bcc34616f61d9015c39add98ae33a70aa6a8d64998ccf300eb2d3eb07de7f", func := "turnstone/turnstonelaw06.RbtreeNone", spec := "rbtreeNone", unfollowed := true, recurses := true, apart := false, narrowed := true }
def RbtreeNoneUptoSaid : Prop := rbtreeNoneUptoRow.holds Try.pinned (OpenSpec.upto rbtreeNoneSpec)

/-- 'turnstonelaw06.RbtreeSorts', WHERE WHAT IT READS IS OF BULK AT MOST 1048576: true; the input reads as it did. -/
def rbtreeSortsUptoRow : OpenClaim := { program := "ytjooegonmdmajaa", sum := "192bcc34616f61d9015c39add98ae33a70aa6a8d64998ccf300eb2d3eb07de7f", func := "turnstone/turnstonelaw06.RbtreeSorts", spec := "rbtreeSorts", unfollowed := true, recurses := true, apart := false, narrowed := true }
def RbtreeSortsUptoSaid : Prop := rbtreeSortsUptoRow.holds Try.pinned (OpenSpec.upto rbtreeSortsSpec)

end Rows
end Go.Proofs.Ytjooegonmdmajaa
