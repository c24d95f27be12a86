/- Scripts: the closed facts of a law's row, each by itself. Conditions: none. -/
import Derived.Test.YtllpiaedljoejaaGreatDoorRwB
import Derived.JoinedOf
namespace Go.Proofs.YtllpiaedljoejaaGreatDoor
open Go.Vc Go.ChangeShapes Go.WideShapes Go.ChangeAt Go.RowKit
set_option linter.unusedVariables false
set_option maxRecDepth 100000
set_option maxHeartbeats 20000000
theorem and2 {a b : Bool} (h : a = true) (k : b = true) : (a && b) = true := by rw [h, k]; rfl
theorem scriptHex_facts : joinedFacts Tryz.prog 4 Tryz.f4 Rows.scriptHexSpec Rows.scriptHexRow = true := by
  unfold joinedFacts
  refine (and2 (and2 (and2 (and2 (and2 (and2 (and2 (and2 (and2 (and2 (and2 (and2 (and2 (and2 (and2 (and2 (and2 (and2 (and2 (and2 (and2 (and2 (and2 (and2 (and2 (and2 (and2 (and2 (and2 (and2 (and2 ?_ ?_) ?_) ?_) ?_) ?_) ?_) ?_) ?_) ?_) ?_) ?_) ?_) ?_) ?_) ?_) ?_) ?_) ?_) ?_) ?_) ?_) ?_) ?_) ?_) ?_) ?_) ?_) ?_) ?_) ?_) ?_)
  all_goals as_aux_lemma => kernel_rfl
end Go.Proofs.YtllpiaedljoejaaGreatDoor
