/- What the rows of wide share: a two-word number that comes in. -/
import Derived.Test.YtkkelelmdbemmaaDoorRows
import Derived.Test.YtkkelelmdbemmaaDoorWide2
import Derived.WalkKit
import Derived.ProofKit
import Derived.OpenShut
import Derived.ShutString
import Derived.ChangeOld
import Derived.Below
import Derived.SizedLaws
import Derived.Lib.SmallJoins
set_option linter.unusedVariables false
set_option linter.unusedSimpArgs false
namespace Go.Proofs.YtkkelelmdbemmaaDoorX
open Go Go.RowKit Go.ChangeShapes Go.WideShapes Go.ChangeAt
theorem own : ownKnob Tryd.prog.godebug = none := by kernel_rfl
theorem laidOut : laidOutB Tryd.prog = true := by kernel_rfl
theorem int_of {k : IntKind} {a : Int} (h : (Lit.int k a).wf = true) : k.min ≤ a ∧ a ≤ k.max := by simpa [Lit.wf] using h
theorem shape_wide : Tryd.prog.underlying 24 = some (.struct #[{ name := "Hi", type := 2, offset := 0, embedded := false, tag := "", pkgPath := "", byteOffset := 0 }, { name := "Lo", type := 22, offset := 1, embedded := false, tag := "", pkgPath := "", byteOffset := 8 }]) := by kernel_rfl
set_option maxRecDepth 100000 in
/-- A two-word number that came in. -/
theorem open_wide {H : Type} {enc : TypeId × Value → H} {W : World} {r : Reach} {b0 base : Nat} {spare : Nat → Bool} {held : Bool} {v : Value} {d : DataW H} {p : List MemPlace} (hv : Value.okWide Tryd.prog W r b0 24 v)
    (h : DataW.Trod enc Tryd.prog W base spare held 24 v d p) : ∃ x, InW x ∧ v = wv x := by
  obtain ⟨v0, v1, y0, y1, n, rfl, _, _, h0, h1⟩ := Go.Joins.open_agg2 shape_wide (by kernel_rfl) (by kernel_rfl) hv h
  obtain ⟨a, ha, _, wa⟩ := DataW.trod_int (t := 2) (k := .i64) (by kernel_rfl) h0
  obtain ⟨b, hb, _, wb⟩ := DataW.trod_int (t := 22) (k := .u64) (by kernel_rfl) h1
  obtain rfl : v0 = .int .i64 a := by simpa using ha
  obtain rfl : v1 = .int .u64 b := by simpa using hb
  have w1 : -9223372036854775808 ≤ a ∧ a < 9223372036854775808 := by
    have h : IntKind.i64.min ≤ a ∧ a ≤ IntKind.i64.max := by simpa [Lit.wf] using wa
    have e1 : IntKind.i64.min = -9223372036854775808 := rfl
    have e2 : IntKind.i64.max = 9223372036854775807 := rfl
    omega
  have w2 : 0 ≤ b ∧ b < 18446744073709551616 := by
    have h : IntKind.u64.min ≤ b ∧ b ≤ IntKind.u64.max := by simpa [Lit.wf] using wb
    have e1 : IntKind.u64.min = 0 := rfl
    have e2 : IntKind.u64.max = 18446744073709551615 := rfl
    omega
  refine ⟨a * 18446744073709551616 + b, ?_, (agg_ok ?_ ?_)⟩
  · unfold InW; omega
  · omega
  · omega
end Go.Proofs.YtkkelelmdbemmaaDoorX
