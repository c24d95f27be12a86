/- Printed by vcgen.py: of each function of this text its weakest precondition as a formula, and that it is one. Conditions: none. -/
import Derived.Test.YtllpiaedljoejaaGreatDoorVcCode
import Derived.Test.YtllpiaedljoejaaGreatDoorVcMem
import Derived.Test.YtllpiaedljoejaaGreatDoorChecked
namespace Go.Proofs.YtllpiaedljoejaaGreatDoor
open Go.Vc
set_option linter.unusedVariables false
set_option maxRecDepth 100000

/-! ### (*strings.Builder).WriteByte: function 17 -/
def strings_Builder_WriteByte.A : Ann where
  sched := fun i => match i with
    | _ => none
  loop := fun i => match i with
    | _ => none

def strings_Builder_WriteByte.F (bB : Nat) (bO : Nat) (c : Int) (w : World) (R : Value → World → Prop) : Prop :=
 Calls Tryz.prog 33 #[.pointer (some ⟨bB, bO, none⟩)] w (fun e w1 => e = .returned (.tuple #[]) ∧
 ∃ t11A : Option Addr, ∃ t11N : Nat, ∃ t11C : Nat, w1.cell? ⟨bB, bO + 1, none⟩ = some (.slice t11A t11N t11C) ∧
 newBlk w1 (.cells #[.int .u8 c] 5 (0, 0)) fun b w2 =>
 ∃ t14A : Option Addr, ∃ t14N : Nat, ∃ t14C : Nat, ∃ w3 : World, (Builtin.append_ #[28, 28] 28 #[.slice t11A t11N t11C, .slice (some ⟨b, 0, none⟩) 1 1]).run Tryz.prog w2 = .ok (.slice t14A t14N t14C) w3 ∧
 storeC w3 bB (bO + 1) [.slice t14A t14N t14C] fun w4 =>
 R (.nilIface) w4)

theorem strings_Builder_WriteByte.vc (bB : Nat) (bO : Nat) (c : Int) (w : World) (R : Value → World → Prop) : fnVC Tryz.prog strings_Builder_WriteByte.A Tryz.f17 [.pointer (some ⟨bB, bO, none⟩), .int .u8 c] w R = strings_Builder_WriteByte.F bB bO c w R := by kernel_rfl
theorem strings_Builder_WriteByte.calls (bB : Nat) (bO : Nat) (c : Int) (w : World) (R : Value → World → Prop) (h : strings_Builder_WriteByte.F bB bO c w R) : Calls Tryz.prog 17 #[.pointer (some ⟨bB, bO, none⟩), .int .u8 c] w (Ret R) :=
  calls_of_vc mixed Tryz.func17 (Eq.mpr (strings_Builder_WriteByte.vc bB bO c w R) h)

end Go.Proofs.YtllpiaedljoejaaGreatDoor
