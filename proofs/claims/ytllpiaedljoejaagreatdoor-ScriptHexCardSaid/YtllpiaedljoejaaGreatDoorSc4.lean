/- Printed by vcgen.py: of each function of this text its weakest precondition as a formula, and that it is one. Conditions: none. -/
import Derived.Test.YtllpiaedljoejaaGreatDoorVcCode
import Derived.Test.YtllpiaedljoejaaGreatDoorVcMem
import Derived.Test.YtllpiaedljoejaaGreatDoorChecked
namespace Go.Proofs.YtllpiaedljoejaaGreatDoor
open Go.Vc
set_option linter.unusedVariables false
set_option maxRecDepth 100000

/-! ### purlin/purlinlaw27.ScriptHex: function 4 -/
def purlinlaw27_ScriptHex.A : Ann where
  sched := fun i => match i with
    | _ => none
  loop := fun i => match i with
    | _ => none

def purlinlaw27_ScriptHex.F (s : ByteArray) (text : ByteArray) (w : World) (R : Value → World → Prop) : Prop :=
 br (decide ((s.size : Int) > 1000)) (
 Calls Tryz.prog 6 #[] w (fun e w1 => ∃ t20 : Bool, e = .returned (.bool t20) ∧
 R (.bool t20) w1)) (
 br (decide ((text.size : Int) > 1000)) (
 Calls Tryz.prog 6 #[] w (fun e w3 => ∃ t201 : Bool, e = .returned (.bool t201) ∧
 R (.bool t201) w3)) (
 ∃ t22A : Option Addr, ∃ t22N : Nat, ∃ t22C : Nat, ∃ w4 : World, (convert 9 28 (.string s)).run Tryz.prog w = .ok (.slice t22A t22N t22C) w4 ∧
 Calls Tryz.prog 7 #[.slice t22A t22N t22C] w4 (fun e w5 => ∃ t23 : ByteArray, e = .returned (.string t23) ∧
 Calls Tryz.prog 8 #[.string t23] w5 (fun e w6 => ∃ t26A : Option Addr, ∃ t26N : Nat, ∃ t26C : Nat, ∃ t26 : Bool, e = .returned (.tuple #[.slice t26A t26N t26C, .bool t26]) ∧
 Calls Tryz.prog 8 #[.string text] w6 (fun e w7 => ∃ t31A : Option Addr, ∃ t31N : Nat, ∃ t31C : Nat, ∃ t31 : Bool, e = .returned (.tuple #[.slice t31A t31N t31C, .bool t31]) ∧
 Calls Tryz.prog 9 #[.string text] w7 (fun e w8 => ∃ t36 : ByteArray, ∃ t361 : Bool, e = .returned (.tuple #[.string t36, .bool t361]) ∧
 Calls Tryz.prog 6 #[] w8 (fun e w9 => ∃ t39 : Bool, e = .returned (.bool t39) ∧
 br t39 (
 Calls Tryz.prog 10 #[.string s] w9 (fun e w10 => ∃ t43 : ByteArray, e = .returned (.string t43) ∧
 br (t23.toList == t43.toList) (
 br (t26 == (!(s.toList == (⟨#[]⟩ : ByteArray).toList))) (
 ∃ t54 : ByteArray, ∃ w11 : World, (convert 28 9 (.slice t26A t26N t26C)).run Tryz.prog w10 = .ok (.string t54) w11 ∧
 br (t54.toList == s.toList) (
 br (t31 == t361) (
 ∃ t65 : ByteArray, ∃ w12 : World, (convert 28 9 (.slice t31A t31N t31C)).run Tryz.prog w11 = .ok (.string t65) w12 ∧
 br (t65.toList == t36.toList) (
 br (!t31) (
 R (.bool true) w12) (
 Calls Tryz.prog 7 #[.slice t31A t31N t31C] w12 (fun e w13 => ∃ t74 : ByteArray, e = .returned (.string t74) ∧
 R (.bool (t74.toList == text.toList)) w13))) (
 R (.bool false) w12)) (
 R (.bool false) w11)) (
 R (.bool false) w11)) (
 R (.bool false) w10)) (
 R (.bool false) w10))) (
 R (.bool false) w9))))))))

theorem purlinlaw27_ScriptHex.vc (s : ByteArray) (text : ByteArray) (w : World) (R : Value → World → Prop) : fnVC Tryz.prog purlinlaw27_ScriptHex.A Tryz.f4 [.string s, .string text] w R = purlinlaw27_ScriptHex.F s text w R := by kernel_rfl
theorem purlinlaw27_ScriptHex.calls (s : ByteArray) (text : ByteArray) (w : World) (R : Value → World → Prop) (h : purlinlaw27_ScriptHex.F s text w R) : Calls Tryz.prog 4 #[.string s, .string text] w (Ret R) :=
  calls_of_vc mixed Tryz.func4 (Eq.mpr (purlinlaw27_ScriptHex.vc s text w R) h)

end Go.Proofs.YtllpiaedljoejaaGreatDoor
