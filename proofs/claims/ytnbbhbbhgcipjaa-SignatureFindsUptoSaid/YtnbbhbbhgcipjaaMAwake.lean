/-
  The examples of chapter 21 run to true.
-/
import Derived.Test.YtnbbhbbhgcipjaaMHints
import Derived.Test.YtnbbhbbhgcipjaaMd
set_option linter.unusedVariables false
set_option linter.unnecessarySimpa false
set_option linter.unusedSimpArgs false
set_option linter.unusedSectionVars false
namespace Go.Proofs.Ytnbbhbbhgcipjaa.Am
def okB : Option (AV × AHeap) → Bool
  | some (.im (.b true), _) => true
  | _ => false
theorem okB_some {o : Option (AV × AHeap)} (h : okB o = true) : ∃ H, o = some (.im (.b true), H) := by
  unfold okB at h
  split at h
  · exact ⟨_, rfl⟩
  · cases h
theorem awake12 : okB (acallF cx 60 (.fn 12 []) []) = true := by kernel_rfl
theorem f12 : PF cx 12 [] fun y => y = .b true := by
  obtain ⟨H, h⟩ := okB_some awake12
  exact PF.of_run (ds := []) h
end Go.Proofs.Ytnbbhbbhgcipjaa.Am
