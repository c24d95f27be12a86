/- Printed by vcgen.py: of each function of this text its weakest precondition as a formula, and that it is one. Conditions: none. -/
import Derived.Test.YtllpiaedljoejaaGreatDoorVcCode
import Derived.Test.YtllpiaedljoejaaGreatDoorVcMem
import Derived.Test.YtllpiaedljoejaaGreatDoorChecked
namespace Go.Proofs.YtllpiaedljoejaaGreatDoor
open Go.Vc
set_option linter.unusedVariables false
set_option maxRecDepth 100000

/-! ### purlin/purlinref27.digit: function 19 -/
def purlinref27_digit.A : Ann where
  sched := fun i => match i with
    | _ => none
  loop := fun i => match i with
    | _ => none

def purlinref27_digit.F (c : Int) (w : World) (R : Value → World → Prop) : Prop :=
 br (decide (c ≥ 48)) (
 br (decide (c ≤ 57)) (
 R (.int .i64 (IntKind.wrap .i64 (IntKind.wrap .u8 (c - 48)))) w) (
 br (decide (c ≥ 97)) (
 br (decide (c ≤ 102)) (
 R (.int .i64 (IntKind.wrap .i64 ((IntKind.wrap .i64 (IntKind.wrap .u8 (c - 97))) + 10))) w) (
 R (.int .i64 (-1)) w)) (
 R (.int .i64 (-1)) w))) (
 br (decide (c ≥ 97)) (
 br (decide (c ≤ 102)) (
 R (.int .i64 (IntKind.wrap .i64 ((IntKind.wrap .i64 (IntKind.wrap .u8 (c - 97))) + 10))) w) (
 R (.int .i64 (-1)) w)) (
 R (.int .i64 (-1)) w))

theorem purlinref27_digit.vc (c : Int) (w : World) (R : Value → World → Prop) : fnVC Tryz.prog purlinref27_digit.A Tryz.f19 [.int .u8 c] w R = purlinref27_digit.F c w R := by kernel_rfl
theorem purlinref27_digit.calls (c : Int) (w : World) (R : Value → World → Prop) (h : purlinref27_digit.F c w R) : Calls Tryz.prog 19 #[.int .u8 c] w (Ret R) :=
  calls_of_vc mixed Tryz.func19 (Eq.mpr (purlinref27_digit.vc c w R) h)

/-! ### purlin/purlinref27.Hex: function 10 -/
def purlinref27_Hex.A : Ann where
  sched := fun i => match i with
    | 5 => some (none, .still 1 false 1989 <| .still 2 false 1987 <| .still 3 false 1991 <| .still 4 false 1999 <| .still 5 false 2015 <| .still 6 false 191 <| .still 7 false 127 <| .still 8 false 255 <| .still 9 false 511 <| .still 10 false 1023 <| .still 0 true 4094 <| .eff 11 <| .eff 12 <| .still 13 false 8191 <| .done)
    | _ => none
  loop := fun i => match i with
    | 3 => some [(3, some (.one (.slice))), (4, some (.one (.int .i64))), (6, none), (7, none), (8, none), (9, none), (10, none), (11, none), (12, none), (13, none), (14, none), (15, none), (16, none), (17, none), (18, none), (19, none), (20, none), (21, none), (22, none), (23, none), (24, none)]
    | _ => none

def purlinref27_Hex.L0 (s : ByteArray) (R : Value → World → Prop) (outA : Option Addr) (outN : Nat) (outC : Nat) (i : Int) (w2 : World) (Nx0 : Option Addr → Nat → Nat → Int → World → Prop) : Prop :=
 br (decide (i < (s.size : Int))) (
 drawC w2 fun w3 =>
 0 ≤ (i : Int) ∧ i < (s.size : Int) ∧
 (16 : Int) ≠ 0 ∧
 0 ≤ (IntKind.wrap .u8 ((((s.data.getD i.toNat 0).toNat : Nat) : Int).tdiv 16) : Int) ∧ IntKind.wrap .u8 ((((s.data.getD i.toNat 0).toNat : Nat) : Int).tdiv 16) < ((⟨#[48, 49, 50, 51, 52, 53, 54, 55, 56, 57, 97, 98, 99, 100, 101, 102]⟩ : ByteArray).size : Int) ∧
 0 ≤ (i : Int) ∧ i < (s.size : Int) ∧
 (16 : Int) ≠ 0 ∧
 0 ≤ ((((s.data.getD i.toNat 0).toNat : Nat) : Int).tmod 16 : Int) ∧ (((s.data.getD i.toNat 0).toNat : Nat) : Int).tmod 16 < ((⟨#[48, 49, 50, 51, 52, 53, 54, 55, 56, 57, 97, 98, 99, 100, 101, 102]⟩ : ByteArray).size : Int) ∧
 newBlk w3 (.cells #[.int .u8 ((((⟨#[48, 49, 50, 51, 52, 53, 54, 55, 56, 57, 97, 98, 99, 100, 101, 102]⟩ : ByteArray).data.getD (IntKind.wrap .u8 ((((s.data.getD i.toNat 0).toNat : Nat) : Int).tdiv 16)).toNat 0).toNat : Nat) : Int), .int .u8 ((((⟨#[48, 49, 50, 51, 52, 53, 54, 55, 56, 57, 97, 98, 99, 100, 101, 102]⟩ : ByteArray).data.getD ((((s.data.getD i.toNat 0).toNat : Nat) : Int).tmod 16).toNat 0).toNat : Nat) : Int)] 5 (0, 0)) fun b1 w4 =>
 ∃ t24A : Option Addr, ∃ t24N : Nat, ∃ t24C : Nat, ∃ w5 : World, (Builtin.append_ #[28, 28] 28 #[.slice outA outN outC, .slice (some ⟨b1, 0, none⟩) 2 2]).run Tryz.prog w4 = .ok (.slice t24A t24N t24C) w5 ∧
 Nx0 t24A t24N t24C (IntKind.wrap .i64 (i + 1)) w5) (
 ∃ t26 : ByteArray, ∃ w6 : World, (convert 28 9 (.slice outA outN outC)).run Tryz.prog w2 = .ok (.string t26) w6 ∧
 R (.string t26) w6)

def purlinref27_Hex.F (s : ByteArray) (w : World) (R : Value → World → Prop) : Prop :=
 newBlk w (.cells #[] 5 (0, 0)) fun b w1 =>
 ∃ I : Nat → Option Addr → Nat → Nat → Int → World → Prop, (∃ n, I n (some ⟨b, 0, none⟩) 0 0 0 w1) ∧ ∀ (n9 : Nat) (dead : Nat → Value) (w2 : World) (outA : Option Addr) (outN : Nat) (outC : Nat) (i : Int), I n9 outA outN outC i w2 →
 purlinref27_Hex.L0 s R outA outN outC i w2 (fun x0 x1 x2 x3 w9 => ∃ m, m < n9 ∧ I m x0 x1 x2 x3 w9)

theorem purlinref27_Hex.vc (s : ByteArray) (w : World) (R : Value → World → Prop) : fnVC Tryz.prog purlinref27_Hex.A Tryz.f10 [.string s] w R = purlinref27_Hex.F s w R := by kernel_rfl
theorem purlinref27_Hex.calls (s : ByteArray) (w : World) (R : Value → World → Prop) (h : purlinref27_Hex.F s w R) : Calls Tryz.prog 10 #[.string s] w (Ret R) :=
  calls_of_vc mixed Tryz.func10 (Eq.mpr (purlinref27_Hex.vc s w R) h)

/-! ### purlin/purlinref27.Unhex: function 9 -/
def purlinref27_Unhex.A : Ann where
  sched := fun i => match i with
    | 5 => some (none, .still 0 false 242 <| .still 1 false 241 <| .still 2 false 243 <| .still 4 true 111 <| .still 5 true 31 <| .still 6 true 63 <| .still 7 true 127 <| .eff 3 <| .eff 8 <| .still 9 false 511 <| .still 10 false 1023 <| .done)
    | _ => none
  loop := fun i => match i with
    | 3 => some [(2, none), (3, none), (4, some (.one (.slice))), (5, some (.one (.int .i64))), (6, none), (7, none), (9, none), (10, none), (11, none), (12, none), (13, none), (14, none), (15, none), (16, none), (17, none), (18, none), (19, none), (20, none), (21, none), (22, none), (23, none), (24, none), (25, none), (26, none), (27, none), (28, none), (29, none), (30, none), (31, none), (32, none), (33, none), (34, none), (35, none), (36, none), (37, none), (38, none)]
    | _ => none

def purlinref27_Unhex.L0 (s : ByteArray) (R : Value → World → Prop) (outA : Option Addr) (outN : Nat) (outC : Nat) (i : Int) (w2 : World) (Nx0 : Option Addr → Nat → Nat → Int → World → Prop) : Prop :=
 br (decide (IntKind.wrap .i64 (i + 1) < (s.size : Int))) (
 drawC w2 fun w3 =>
 0 ≤ (i : Int) ∧ i < (s.size : Int) ∧
 0 ≤ (IntKind.wrap .i64 (i + 1) : Int) ∧ IntKind.wrap .i64 (i + 1) < (s.size : Int) ∧
 Calls Tryz.prog 19 #[.int .u8 (((s.data.getD i.toNat 0).toNat : Nat) : Int)] w3 (fun e w4 => ∃ t19 : Int, e = .returned (.int .i64 t19) ∧
 Calls Tryz.prog 19 #[.int .u8 (((s.data.getD (IntKind.wrap .i64 (i + 1)).toNat 0).toNat : Nat) : Int)] w4 (fun e w5 => ∃ t24 : Int, e = .returned (.int .i64 t24) ∧
 br (decide (t19 < 0)) (
 R (.tuple #[.string (⟨#[]⟩ : ByteArray), .bool false]) w5) (
 br (decide (t24 < 0)) (
 R (.tuple #[.string (⟨#[]⟩ : ByteArray), .bool false]) w5) (
 newBlk w5 (.cells #[.int .u8 (IntKind.wrap .u8 (IntKind.wrap .i64 (IntKind.wrap .i64 (16 * t19) + t24)))] 5 (0, 0)) fun b1 w6 =>
 ∃ t38A : Option Addr, ∃ t38N : Nat, ∃ t38C : Nat, ∃ w7 : World, (Builtin.append_ #[28, 28] 28 #[.slice outA outN outC, .slice (some ⟨b1, 0, none⟩) 1 1]).run Tryz.prog w6 = .ok (.slice t38A t38N t38C) w7 ∧
 Nx0 t38A t38N t38C (IntKind.wrap .i64 (i + 2)) w7))))) (
 br (s.toList == (⟨#[]⟩ : ByteArray).toList) (
 R (.tuple #[.string (⟨#[]⟩ : ByteArray), .bool false]) w2) (
 (2 : Int) ≠ 0 ∧
 br ((s.size : Int).tmod 2 == 1) (
 R (.tuple #[.string (⟨#[]⟩ : ByteArray), .bool false]) w2) (
 ∃ t48 : ByteArray, ∃ w8 : World, (convert 28 9 (.slice outA outN outC)).run Tryz.prog w2 = .ok (.string t48) w8 ∧
 R (.tuple #[.string t48, .bool true]) w8)))

def purlinref27_Unhex.F (s : ByteArray) (w : World) (R : Value → World → Prop) : Prop :=
 newBlk w (.cells #[] 5 (0, 0)) fun b w1 =>
 ∃ I : Nat → Option Addr → Nat → Nat → Int → World → Prop, (∃ n, I n (some ⟨b, 0, none⟩) 0 0 0 w1) ∧ ∀ (n9 : Nat) (dead : Nat → Value) (w2 : World) (outA : Option Addr) (outN : Nat) (outC : Nat) (i : Int), I n9 outA outN outC i w2 →
 purlinref27_Unhex.L0 s R outA outN outC i w2 (fun x0 x1 x2 x3 w9 => ∃ m, m < n9 ∧ I m x0 x1 x2 x3 w9)

theorem purlinref27_Unhex.vc (s : ByteArray) (w : World) (R : Value → World → Prop) : fnVC Tryz.prog purlinref27_Unhex.A Tryz.f9 [.string s] w R = purlinref27_Unhex.F s w R := by kernel_rfl
theorem purlinref27_Unhex.calls (s : ByteArray) (w : World) (R : Value → World → Prop) (h : purlinref27_Unhex.F s w R) : Calls Tryz.prog 9 #[.string s] w (Ret R) :=
  calls_of_vc mixed Tryz.func9 (Eq.mpr (purlinref27_Unhex.vc s w R) h)

end Go.Proofs.YtllpiaedljoejaaGreatDoor
