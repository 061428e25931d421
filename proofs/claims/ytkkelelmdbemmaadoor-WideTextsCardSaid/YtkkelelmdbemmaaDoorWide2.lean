/- Layer 1, wide, second part: orders, negation, differences. -/
import Derived.Test.YtkkelelmdbemmaaDoorWide
set_option linter.unusedVariables false
set_option linter.unusedSimpArgs false
set_option maxRecDepth 100000
namespace Go.Proofs.YtkkelelmdbemmaaDoorX
open Go Go.RowKit
attribute [local irreducible] XS XC XA thenE blockE retE loopE loopS cutB cutN doneE SE

/-- -1, 0 or 1. -/
def cmpI (a b : Int) : Int := if a < b then -1 else if b < a then 1 else 0
theorem agg_ok {s hi lo : Int} (h1 : hi = s / 18446744073709551616) (h2 : lo = s % 18446744073709551616) : Value.agg #[.int .i64 hi, .int .u64 lo] = wv s := by
  unfold wv; rw [h1, h2]

end Go.Proofs.YtkkelelmdbemmaaDoorX
