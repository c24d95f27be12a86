/- The rows' beginnings: plain arguments. Conditions: none. -/
import Derived.Test.YtllpiaedljoejaaGreatDoorVcRow
import Derived.Test.YtllpiaedljoejaaGreatDoorRows
namespace Go.Proofs.YtllpiaedljoejaaGreatDoor
open Go.Vc Go.ChangeShapes Go.WideShapes Go.ChangeAt Go.RowKit
set_option linter.unusedSimpArgs false
set_option linter.unusedVariables false
set_option maxRecDepth 100000

theorem ownK : ownKnob Tryz.prog.godebug = none := by kernel_rfl
theorem laidOut : laidOutB Tryz.prog = true := by kernel_rfl
theorem lit_u8 {n : Int} (h : (Lit.int .u8 n).wf = true) : 0 ≤ n ∧ n < 256 := by
  have := bounds_u8 h
  omega
theorem leafB : leafs Tryz.prog 40 5 = some [.int .u8] := by kernel_rfl
theorem decB (cs : List Value) (h : fits [.int .u8] cs) : ∃ x : Int, (0 ≤ x ∧ x < 256) ∧ cs = (Enc.int .u8).f x := by
  obtain ⟨_, _, rfl, ⟨a, rfl, ha⟩, h1⟩ := fits_cons h
  obtain rfl := fits_nil h1
  exact ⟨a, lit_u8 ha, rfl⟩
end Go.Proofs.YtllpiaedljoejaaGreatDoor
