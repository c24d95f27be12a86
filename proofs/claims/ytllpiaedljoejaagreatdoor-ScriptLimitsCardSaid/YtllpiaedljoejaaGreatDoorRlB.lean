/- Scripts: the closed facts of a law's row, each by itself. Conditions: none. -/
import Derived.Test.YtllpiaedljoejaaGreatDoorRwB
import Derived.JoinedOf
namespace Go.Proofs.YtllpiaedljoejaaGreatDoor
open Go.Vc Go.ChangeShapes Go.WideShapes Go.ChangeAt Go.RowKit
set_option linter.unusedVariables false
set_option maxRecDepth 100000
set_option maxHeartbeats 20000000
theorem and2L {a b : Bool} (h : a = true) (k : b = true) : (a && b) = true := by rw [h, k]; rfl
theorem scriptLimits_facts : joinedFacts Tryz.prog 3 Tryz.f3 Rows.scriptLimitsSpec Rows.scriptLimitsRow = true := by
  unfold joinedFacts
  refine (and2L (and2L (and2L (and2L (and2L (and2L (and2L (and2L (and2L (and2L (and2L (and2L (and2L (and2L (and2L (and2L (and2L (and2L (and2L (and2L (and2L (and2L (and2L (and2L (and2L (and2L (and2L (and2L (and2L (and2L (and2L ?_ ?_) ?_) ?_) ?_) ?_) ?_) ?_) ?_) ?_) ?_) ?_) ?_) ?_) ?_) ?_) ?_) ?_) ?_) ?_) ?_) ?_) ?_) ?_) ?_) ?_) ?_) ?_) ?_) ?_) ?_) ?_)
  all_goals as_aux_lemma => kernel_rfl
end Go.Proofs.YtllpiaedljoejaaGreatDoor
