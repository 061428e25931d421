/- What the listed tables give: the powers of ten. -/
import Derived.Test.YtkkelelmdbemmaaDoorTie
import Derived.Test.YtkkelelmdbemmaaDoorFmt2
import Derived.Lib.LaidTab
import Derived.Stop.LaidErr
import Derived.MakeChecks
import Derived.LaidMore
import Derived.LaidLaws
set_option linter.unusedVariables false
set_option linter.unusedSimpArgs false
set_option maxRecDepth 100000
namespace Go.Proofs.YtkkelelmdbemmaaDoorX
open Go
/-- The door's own heap meets the condition. -/
theorem door_met (os : Os) (args : Array Value) : laidMetH Tryd.prog [("math/bits.deBruijn32tab", YtkkelelmdbemmaaDoor.Rows.laid_math_bits_deBruijn32tab), ("math/bits.deBruijn64tab", YtkkelelmdbemmaaDoor.Rows.laid_math_bits_deBruijn64tab), ("internal/strconv.uint64pow10", YtkkelelmdbemmaaDoor.Rows.laid_internal_strconv_uint64pow10)] ((World.doorLaid Tryd.prog 24 os).forCall (fun _ _ => 0) ⟨#[], args, []⟩).memory :=
  laidMetH_of_parts3 (fuel := 8) (laidMet_of_run' 8 (by kernel_rfl) (by kernel_rfl)) (by kernel_rfl) (by kernel_rfl)
theorem pows_of {W : World} (h : laidMetH Tryd.prog [("math/bits.deBruijn32tab", YtkkelelmdbemmaaDoor.Rows.laid_math_bits_deBruijn32tab), ("math/bits.deBruijn64tab", YtkkelelmdbemmaaDoor.Rows.laid_math_bits_deBruijn64tab), ("internal/strconv.uint64pow10", YtkkelelmdbemmaaDoor.Rows.laid_internal_strconv_uint64pow10)] W) : Pows W := by
  rw [MakeChecks.laidMetH_plain _ _ _ (by kernel_rfl)] at h
  have h2 := h.tail.tail
  exact Lib.tabIs_of_head (g := (Tryd.prog.globalNamed "internal/strconv.uint64pow10").getD 0) (t := 73) (e := 22) (n := 20) (by kernel_rfl) (by kernel_rfl) (by kernel_rfl) (by kernel_rfl) (by kernel_rfl) (by kernel_rfl) h2
end Go.Proofs.YtkkelelmdbemmaaDoorX
