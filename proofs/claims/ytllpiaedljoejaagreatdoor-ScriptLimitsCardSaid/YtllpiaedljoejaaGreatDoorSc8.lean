/- Printed by vcgen.py: of each function of this text its weakest precondition as a formula, and that it is one. Conditions: none. -/
import Derived.Test.YtllpiaedljoejaaGreatDoorVcCode
import Derived.Test.YtllpiaedljoejaaGreatDoorVcMem
import Derived.Test.YtllpiaedljoejaaGreatDoorChecked
namespace Go.Proofs.YtllpiaedljoejaaGreatDoor
open Go.Vc
set_option linter.unusedVariables false
set_option maxRecDepth 100000

/-! ### (*strings.Builder).WriteString: function 15 -/
def strings_Builder_WriteString.A : Ann where
  sched := fun i => match i with
    | _ => none
  loop := fun i => match i with
    | _ => none

def strings_Builder_WriteString.F (bB : Nat) (bO : Nat) (s : ByteArray) (w : World) (R : Value → World → Prop) : Prop :=
 Calls Tryz.prog 33 #[.pointer (some ⟨bB, bO, none⟩)] w (fun e w1 => e = .returned (.tuple #[]) ∧
 ∃ t12A : Option Addr, ∃ t12N : Nat, ∃ t12C : Nat, w1.cell? ⟨bB, bO + 1, none⟩ = some (.slice t12A t12N t12C) ∧
 ∃ t14A : Option Addr, ∃ t14N : Nat, ∃ t14C : Nat, ∃ w2 : World, (Builtin.append_ #[28, 9] 28 #[.slice t12A t12N t12C, .string s]).run Tryz.prog w1 = .ok (.slice t14A t14N t14C) w2 ∧
 storeC w2 bB (bO + 1) [.slice t14A t14N t14C] fun w3 =>
 R (.tuple #[.int .i64 (s.size : Int), .nilIface]) w3)

theorem strings_Builder_WriteString.vc (bB : Nat) (bO : Nat) (s : ByteArray) (w : World) (R : Value → World → Prop) : fnVC Tryz.prog strings_Builder_WriteString.A Tryz.f15 [.pointer (some ⟨bB, bO, none⟩), .string s] w R = strings_Builder_WriteString.F bB bO s w R := by kernel_rfl
theorem strings_Builder_WriteString.calls (bB : Nat) (bO : Nat) (s : ByteArray) (w : World) (R : Value → World → Prop) (h : strings_Builder_WriteString.F bB bO s w R) : Calls Tryz.prog 15 #[.pointer (some ⟨bB, bO, none⟩), .string s] w (Ret R) :=
  calls_of_vc mixed Tryz.func15 (Eq.mpr (strings_Builder_WriteString.vc bB bO s w R) h)

end Go.Proofs.YtllpiaedljoejaaGreatDoor
