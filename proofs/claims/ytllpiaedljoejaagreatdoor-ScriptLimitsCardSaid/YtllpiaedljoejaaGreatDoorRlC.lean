/- Scripts: a row holds, and its card. Conditions: none. -/
import Derived.Test.YtllpiaedljoejaaGreatDoorRlA
import Derived.Test.YtllpiaedljoejaaGreatDoorRlB
import Derived.Test.YtllpiaedljoejaaGreatDoorCards
namespace Go.Proofs.YtllpiaedljoejaaGreatDoor
open Go.Vc Go.ChangeShapes Go.WideShapes Go.ChangeAt Go.RowKit
set_option linter.unusedSimpArgs false
set_option linter.unusedVariables false
set_option maxRecDepth 100000


theorem scriptLimits_holds : Rows.ScriptLimitsSaid :=
  OpenClaim.holds_of_wide 3 Tryz.f3 rfl rfl rfl rfl rfl rfl rfl ⟨rfl, rfl, rfl, rfl, rfl⟩ rfl rfl rfl rfl rfl (by as_aux_lemma => kernel_rfl) Tryz.func3 scriptLimits_facts
    (of_decide_eq_true (by kernel_rfl)) (by unfold Func.isWrapper; first | (rw [if_pos (by decide +kernel)]; kernel_rfl) | (rw [if_neg (by decide +kernel)]; exact ⟨rfl, rfl⟩))
    (fun os started H enc _ => scriptLimits_lifted os started H enc)

end Go.Proofs.YtllpiaedljoejaaGreatDoor
