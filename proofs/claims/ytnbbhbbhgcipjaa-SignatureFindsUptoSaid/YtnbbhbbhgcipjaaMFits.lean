/-
  The program fits the abstract machine.
-/
import Derived.Test.YtnbbhbbhgcipjaaMHints
set_option linter.unusedVariables false
set_option linter.unnecessarySimpa false
set_option linter.unusedSimpArgs false
set_option linter.unusedSectionVars false
namespace Go.Proofs.Ytnbbhbbhgcipjaa.Am
theorem fits : progFit cx = true := by kernel_rfl
theorem mixed : cx.P.follows .mixedOrders = true := by kernel_rfl
end Go.Proofs.Ytnbbhbbhgcipjaa.Am
