/- Printed by vcgen.py: of each function of this text its weakest precondition as a formula, and that it is one. Conditions: none. -/
import Derived.Test.YtllpiaedljoejaaGreatDoorVcCode
import Derived.Test.YtllpiaedljoejaaGreatDoorVcMem
import Derived.Test.YtllpiaedljoejaaGreatDoorChecked
namespace Go.Proofs.YtllpiaedljoejaaGreatDoor
open Go.Vc
set_option linter.unusedVariables false
set_option maxRecDepth 100000

/-! ### purlin/purlinlaw27.ScriptLimits: function 3 -/
def purlinlaw27_ScriptLimits.A : Ann where
  sched := fun i => match i with
    | _ => none
  loop := fun i => match i with
    | 4 => some [(7, some (.one (.str))), (9, some (.one (.int .i64))), (24, none), (25, none), (26, none), (27, none), (28, none), (29, none), (30, none)]
    | 7 => some [(8, some (.one (.str))), (31, none), (32, none), (33, none), (34, none), (35, none), (36, none), (37, none), (38, none), (39, none), (40, none), (41, none), (42, none), (43, none), (44, none), (45, none)]
    | _ => none

def purlinlaw27_ScriptLimits.L1 (many : Int) (bytes : Int) (R : Value → World → Prop) (s : ByteArray) (long : ByteArray) (w2 : World) (Nx1 : ByteArray → World → Prop) : Prop :=
 br (decide ((long.size : Int) < IntKind.wrap .i64 (65530 + (IntKind.wrap .i64 (bytes.tmod 12))))) (
 0 ≤ (if IntKind.wrap .i64 ((IntKind.wrap .i64 (65530 + (IntKind.wrap .i64 (bytes.tmod 12)))) - (long.size : Int)) < (long.size : Int) then IntKind.wrap .i64 ((IntKind.wrap .i64 (65530 + (IntKind.wrap .i64 (bytes.tmod 12)))) - (long.size : Int)) else (long.size : Int)) ∧ (if IntKind.wrap .i64 ((IntKind.wrap .i64 (65530 + (IntKind.wrap .i64 (bytes.tmod 12)))) - (long.size : Int)) < (long.size : Int) then IntKind.wrap .i64 ((IntKind.wrap .i64 (65530 + (IntKind.wrap .i64 (bytes.tmod 12)))) - (long.size : Int)) else (long.size : Int)) ≤ (long.size : Int) ∧
 ((long.size + (long.extract 0 (if IntKind.wrap .i64 ((IntKind.wrap .i64 (65530 + (IntKind.wrap .i64 (bytes.tmod 12)))) - (long.size : Int)) < (long.size : Int) then IntKind.wrap .i64 ((IntKind.wrap .i64 (65530 + (IntKind.wrap .i64 (bytes.tmod 12)))) - (long.size : Int)) else (long.size : Int)).toNat).size : Nat) : Int) ≤ 9223372036854775807 ∧
 Nx1 (long ++ (long.extract 0 (if IntKind.wrap .i64 ((IntKind.wrap .i64 (65530 + (IntKind.wrap .i64 (bytes.tmod 12)))) - (long.size : Int)) < (long.size : Int) then IntKind.wrap .i64 ((IntKind.wrap .i64 (65530 + (IntKind.wrap .i64 (bytes.tmod 12)))) - (long.size : Int)) else (long.size : Int)).toNat)) w2) (
 Calls Tryz.prog 5 #[.string s] w2 (fun e w3 => ∃ t48 : ByteArray, ∃ t481 : Int, ∃ t482 : Int, e = .returned (.tuple #[.string t48, .int .i64 t481, .int .i64 t482]) ∧
 Calls Tryz.prog 5 #[.string long] w3 (fun e w4 => ∃ t54 : ByteArray, ∃ t541 : Int, ∃ t542 : Int, e = .returned (.tuple #[.string t54, .int .i64 t541, .int .i64 t542]) ∧
 Calls Tryz.prog 6 #[] w4 (fun e w5 => ∃ t58 : Bool, e = .returned (.bool t58) ∧
 br (!t58) (
 R (.bool false) w5) (
 br (t481 != 0) (
 R (.bool false) w5) (
 br (t541 != 0) (
 R (.bool false) w5) (
 br (!(t54.toList == (⟨#[]⟩ : ByteArray).toList)) (
 R (.bool false) w5) (
 br (!((t482 == 0) == (decide (IntKind.wrap .i64 (490 + (IntKind.wrap .i64 (many.tmod 20))) ≤ 500)))) (
 R (.bool false) w5) (
 br (!((t542 == 0) == (decide (IntKind.wrap .i64 (65530 + (IntKind.wrap .i64 (bytes.tmod 12))) ≤ 65536)))) (
 R (.bool false) w5) (
 br (t482 == 0) (
 br ((t48.size : Int) == IntKind.wrap .i64 (10 * (IntKind.wrap .i64 (490 + (IntKind.wrap .i64 (many.tmod 20)))))) (
 br (t542 == 0) (
 R (.bool true) w5) (
 R (.bool (t542 == 280)) w5)) (
 br (t482 == 281) (
 br (t48.toList == (⟨#[]⟩ : ByteArray).toList) (
 br (t542 == 0) (
 R (.bool true) w5) (
 R (.bool (t542 == 280)) w5)) (
 R (.bool false) w5)) (
 R (.bool false) w5))) (
 br (t482 == 281) (
 br (t48.toList == (⟨#[]⟩ : ByteArray).toList) (
 br (t542 == 0) (
 R (.bool true) w5) (
 R (.bool (t542 == 280)) w5)) (
 R (.bool false) w5)) (
 R (.bool false) w5))))))))))))

def purlinlaw27_ScriptLimits.L0 (many : Int) (bytes : Int) (R : Value → World → Prop) (dead : Nat → Value) (s : ByteArray) (i : Int) (w1 : World) (Nx0 : ByteArray → Int → World → Prop) : Prop :=
 br (decide (i < IntKind.wrap .i64 (490 + (IntKind.wrap .i64 (many.tmod 20))))) (
 ((s.size + (⟨#[110, 111, 119, 10]⟩ : ByteArray).size : Nat) : Int) ≤ 9223372036854775807 ∧
 Nx0 (s ++ (⟨#[110, 111, 119, 10]⟩ : ByteArray)) (IntKind.wrap .i64 (i + 1)) w1) (
 ∃ I : Nat → ByteArray → World → Prop, (∃ n, I n (⟨#[35]⟩ : ByteArray) w1) ∧ ∀ (n9 : Nat) (dead : Nat → Value) (w2 : World) (long : ByteArray), I n9 long w2 →
 purlinlaw27_ScriptLimits.L1 many bytes R s long w2 (fun x0 w9 => ∃ m, m < n9 ∧ I m x0 w9))

def purlinlaw27_ScriptLimits.F (many : Int) (bytes : Int) (w : World) (R : Value → World → Prop) : Prop :=
 (20 : Int) ≠ 0 ∧
 (12 : Int) ≠ 0 ∧
 ∃ I : Nat → ByteArray → Int → World → Prop, (∃ n, I n (⟨#[]⟩ : ByteArray) 0 w) ∧ ∀ (n9 : Nat) (dead : Nat → Value) (w1 : World) (s : ByteArray) (i : Int), I n9 s i w1 →
 purlinlaw27_ScriptLimits.L0 many bytes R dead s i w1 (fun x0 x1 w9 => ∃ m, m < n9 ∧ I m x0 x1 w9)

theorem purlinlaw27_ScriptLimits.vc (many : Int) (bytes : Int) (w : World) (R : Value → World → Prop) : fnVC Tryz.prog purlinlaw27_ScriptLimits.A Tryz.f3 [.int .u8 many, .int .u8 bytes] w R = purlinlaw27_ScriptLimits.F many bytes w R := by kernel_rfl
theorem purlinlaw27_ScriptLimits.calls (many : Int) (bytes : Int) (w : World) (R : Value → World → Prop) (h : purlinlaw27_ScriptLimits.F many bytes w R) : Calls Tryz.prog 3 #[.int .u8 many, .int .u8 bytes] w (Ret R) :=
  calls_of_vc mixed Tryz.func3 (Eq.mpr (purlinlaw27_ScriptLimits.vc many bytes w R) h)

end Go.Proofs.YtllpiaedljoejaaGreatDoor
