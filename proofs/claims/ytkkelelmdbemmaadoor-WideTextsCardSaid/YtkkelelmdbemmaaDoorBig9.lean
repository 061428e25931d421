/- Layer 1, ref01, ninth part: Is. -/
import Derived.Test.YtkkelelmdbemmaaDoorBig8
set_option linter.unusedVariables false
set_option linter.unusedSimpArgs false
set_option maxRecDepth 100000
namespace Go.Proofs.YtkkelelmdbemmaaDoorX
open Go Go.RowKit
attribute [local irreducible] XS XC XA thenE blockE retE loopE loopS cutB cutN doneE SE

theorem cmp_neg' {x y : Int} : cmpI x y < 0 ↔ x < y := by unfold cmpI; repeat' split <;> omega
theorem InB.neg {x : Int} (h : InB x) : InB (-x) := ⟨by have := h.2; omega, by have := h.1; omega⟩
end Go.Proofs.YtkkelelmdbemmaaDoorX
