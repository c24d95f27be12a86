/- Limits of scripts: a script has as many lines and bytes as it may, and no more (the card). Conditions: none. -/
import Derived.Test.YtllpiaedljoejaaGreatDoorRlC
import Derived.Test.YtllpiaedljoejaaGreatDoorTie
import Derived.Test.YtllpiaedljoejaaGreatDoorCards
namespace Go.Proofs.YtllpiaedljoejaaGreatDoor
open Go.Vc Go.ChangeShapes Go.WideShapes Go.ChangeAt Go.RowKit
set_option linter.unusedSimpArgs false
set_option linter.unusedVariables false
set_option maxRecDepth 100000


theorem scriptLimits_card : Rows.ScriptLimitsCardSaid :=
  Claim7.holds_tied_plain_at .later [] Rows.scriptLimitsCard.laidKinds true Rows.scriptLimitsCard.stood.harness true
    scriptLimits_holds (fun _ h => by cases h) (by as_aux_lemma => kernel_rfl) (fun _ h => by cases h) scriptLimits_row_tie rfl ⟨rfl, rfl⟩ (by as_aux_lemma => kernel_rfl) rfl
    (fun f fn hf hfn => by
      obtain rfl : f = 3 := Option.some.inj ((show Tryz.prog.funcNamed "purlin/purlinlaw27.ScriptLimits" = some 3 by kernel_rfl).symm.trans hf) |>.symm
      obtain rfl : fn = Tryz.f3 := (Option.some.inj (Tryz.func3.symm.trans hfn)).symm
      exact ⟨by as_aux_lemma => kernel_rfl, fun j t ht => by
        have hm : t ∈ Tryz.f3.params.toList := by simpa using Array.mem_of_getElem? ht
        have hall : (Tryz.f3.params.toList.all fun u => !Tryz.prog.wantsStandIn u) = true := by kernel_rfl
        exact (show Tryz.prog.wantsStandIn t = false by simpa using List.all_eq_true.1 hall t hm)⟩)
    (by as_aux_lemma => kernel_rfl)

end Go.Proofs.YtllpiaedljoejaaGreatDoor
