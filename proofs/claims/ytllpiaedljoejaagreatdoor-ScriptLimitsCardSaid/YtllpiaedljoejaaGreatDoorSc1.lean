/- Printed by vcgen.py: of each function of this text its weakest precondition as a formula, and that it is one. Conditions: none. -/
import Derived.Test.YtllpiaedljoejaaGreatDoorVcCode
import Derived.Test.YtllpiaedljoejaaGreatDoorVcMem
import Derived.Test.YtllpiaedljoejaaGreatDoorChecked
namespace Go.Proofs.YtllpiaedljoejaaGreatDoor
open Go.Vc
set_option linter.unusedVariables false
set_option maxRecDepth 100000

/-! ### purlin/purlinlaw27.awake: function 6 -/
def purlinlaw27_awake.A : Ann where
  sched := fun i => match i with
    | _ => none
  loop := fun i => match i with
    | _ => none

def purlinlaw27_awake.F (w : World) (R : Value → World → Prop) : Prop :=
 Calls Tryz.prog 5 #[.string (⟨#[110, 111, 119, 10, 112, 108, 97, 110, 32, 53, 48, 10, 112, 108, 97, 110, 32, 53, 48, 53, 53, 53, 50, 51, 49, 48, 48, 10, 112, 108, 97, 110, 32, 53, 48, 53, 53, 53, 50, 51, 49, 48, 48, 48, 97, 48, 49, 48, 49, 48, 48, 48, 48, 48, 48, 48, 49, 48, 48, 48, 48, 48, 48, 48, 97, 48, 48, 48, 48, 48, 48, 48, 48, 48, 49, 48, 49, 48, 48, 48, 48, 48, 48, 10, 112, 105, 99, 107, 32, 48, 10, 112, 105, 99, 107, 32, 48, 10, 112, 105, 99, 107, 32, 48, 32, 115, 101, 108, 102, 10, 112, 105, 99, 107, 32, 48, 10, 98, 117, 115, 121, 32, 48, 10, 112, 105, 99, 107, 32, 48, 10, 99, 97, 108, 108, 115, 32, 48, 10, 99, 111, 114, 101, 32, 48, 10, 116, 105, 99, 107, 32, 51, 10, 110, 111, 119, 10, 111, 114, 100, 101, 114, 32, 48, 10, 112, 105, 99, 107, 32, 49, 10]⟩ : ByteArray)] w (fun e w1 => ∃ t8 : ByteArray, ∃ t81 : Int, ∃ t82 : Int, e = .returned (.tuple #[.string t8, .int .i64 t81, .int .i64 t82]) ∧
 Calls Tryz.prog 5 #[.string (⟨#[112, 108, 97, 110, 32, 53, 48, 53, 53, 53, 50, 51, 49, 48, 48, 48, 97, 48, 49, 48, 49, 48, 48, 48, 48, 48, 48, 48, 49, 48, 48, 48, 48, 48, 48, 48, 97, 48, 48, 48, 48, 48, 48, 48, 48, 48, 49, 48, 49, 48, 48, 48, 48, 48, 48, 10, 35, 10, 10, 112, 105, 99, 107, 32, 48, 32, 110, 111, 119, 32, 49]⟩ : ByteArray)] w1 (fun e w2 => ∃ t13 : ByteArray, ∃ t131 : Int, ∃ t132 : Int, e = .returned (.tuple #[.string t13, .int .i64 t131, .int .i64 t132]) ∧
 br (t8.toList == (⟨#[101, 114, 114, 111, 114, 32, 50, 56, 51, 10, 101, 114, 114, 111, 114, 32, 50, 48, 32, 48, 10, 101, 114, 114, 111, 114, 32, 50, 48, 32, 52, 10, 111, 107, 10, 111, 107, 10, 111, 107, 10, 111, 107, 10, 111, 107, 10, 111, 107, 32, 48, 32, 48, 32, 51, 32, 52, 10, 111, 107, 10, 111, 107, 32, 48, 58, 48, 58, 48, 58, 49, 54, 58, 51, 58, 52, 58, 53, 58, 48, 58, 48, 58, 48, 10, 111, 107, 32, 51, 32, 48, 32, 48, 10, 111, 107, 10, 111, 107, 32, 51, 32, 56, 10, 111, 107, 32, 48, 10, 101, 114, 114, 111, 114, 32, 50, 53, 49, 10]⟩ : ByteArray).toList) (
 br (t81 == 0) (
 br (t82 == 0) (
 br (t131 == 4) (
 R (.bool (t132 == 282)) w2) (
 R (.bool false) w2)) (
 R (.bool false) w2)) (
 R (.bool false) w2)) (
 R (.bool false) w2)))

theorem purlinlaw27_awake.vc (w : World) (R : Value → World → Prop) : fnVC Tryz.prog purlinlaw27_awake.A Tryz.f6 [] w R = purlinlaw27_awake.F w R := by kernel_rfl
theorem purlinlaw27_awake.calls (w : World) (R : Value → World → Prop) (h : purlinlaw27_awake.F w R) : Calls Tryz.prog 6 #[] w (Ret R) :=
  calls_of_vc mixed Tryz.func6 (Eq.mpr (purlinlaw27_awake.vc w R) h)

end Go.Proofs.YtllpiaedljoejaaGreatDoor
