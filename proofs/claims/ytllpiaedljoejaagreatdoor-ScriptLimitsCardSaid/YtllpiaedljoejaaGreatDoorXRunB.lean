/- Closed runs: what the machine says of the example's second text. Conditions: none. -/
import Derived.Test.YtllpiaedljoejaaGreatDoorXEnv
import Derived.Test.YtllpiaedljoejaaGreatDoorXTxt
import Derived.Test.YtllpiaedljoejaaGreatDoorVcF
namespace Go.Proofs.YtllpiaedljoejaaGreatDoor
open Go.Vc
set_option linter.unusedSimpArgs false
set_option linter.unusedVariables false
set_option maxRecDepth 100000
theorem runB : (callF Tryz.prog envX 60 5 [.string txtB] initX).map (·.1) = some (.tuple #[.string ByteArray.empty, .int .i64 4, .int .i64 282]) := by kernel_rfl
end Go.Proofs.YtllpiaedljoejaaGreatDoor
