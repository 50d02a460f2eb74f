/-
  The examples of chapter 7 run to true.
-/
import Derived.Test.YtnbbhbbhgcipjaaMAwake
set_option linter.unusedVariables false
set_option linter.unnecessarySimpa false
set_option linter.unusedSimpArgs false
set_option linter.unusedSectionVars false
namespace Go.Proofs.Ytnbbhbbhgcipjaa.Am
theorem awake19 : okB (acallF cx 60 (.fn 19 []) []) = true := by kernel_rfl
theorem f19 : PF cx 19 [] fun y => y = .b true := by
  obtain ⟨H, h⟩ := okB_some awake19
  exact PF.of_run (ds := []) h
end Go.Proofs.Ytnbbhbbhgcipjaa.Am
