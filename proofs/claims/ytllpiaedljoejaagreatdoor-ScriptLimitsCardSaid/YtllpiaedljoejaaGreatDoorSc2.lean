/- Printed by vcgen.py: of each function of this text its weakest precondition as a formula, and that it is one. Conditions: none. -/
import Derived.Test.YtllpiaedljoejaaGreatDoorVcCode
import Derived.Test.YtllpiaedljoejaaGreatDoorVcMem
import Derived.Test.YtllpiaedljoejaaGreatDoorChecked
namespace Go.Proofs.YtllpiaedljoejaaGreatDoor
open Go.Vc
set_option linter.unusedVariables false
set_option maxRecDepth 100000

/-! ### purlin/script.Hex: function 7 -/
def script_Hex.A : Ann where
  sched := fun i => match i with
    | _ => none
  loop := fun i => match i with
    | 3 => some [(5, none), (8, some (.one (.int .i64))), (9, none), (10, none), (11, none), (12, none), (13, none), (14, none), (15, none), (16, none), (17, none), (18, none), (19, none), (20, none)]
    | _ => none

def script_Hex.L0 (bA : Option Addr) (bN : Nat) (R : Value → World → Prop) (b : Nat) (t8 : Int) (w2 : World) (Nx0 : Int → World → Prop) : Prop :=
 br (decide (t8 < ((bN : Nat) : Int))) (
 0 ≤ (t8 : Int) ∧ t8 < ((bN : Nat) : Int) ∧ okP bA (
 ∃ t11 : Int, w2.cell? ⟨(pb bA), po bA + t8.toNat * 1, none⟩ = some (.int .u8 t11) ∧
 ¬ (4 : Int) < 0 ∧
 0 ≤ (t11.fdiv (2 ^ (min (4 : Int).toNat 8)) : Int) ∧ t11.fdiv (2 ^ (min (4 : Int).toNat 8)) < ((⟨#[48, 49, 50, 51, 52, 53, 54, 55, 56, 57, 97, 98, 99, 100, 101, 102]⟩ : ByteArray).size : Int) ∧
 Calls Tryz.prog 17 #[.pointer (some ⟨b, 0, none⟩), .int .u8 ((((⟨#[48, 49, 50, 51, 52, 53, 54, 55, 56, 57, 97, 98, 99, 100, 101, 102]⟩ : ByteArray).data.getD (t11.fdiv (2 ^ (min (4 : Int).toNat 8))).toNat 0).toNat : Nat) : Int)] w2 (fun e w3 => ∃ t15V : Value, e = .returned (t15V) ∧
 0 ≤ (IntKind.wrap .u8 (((BitVec.ofInt 8 t11 &&& BitVec.ofInt 8 15).toNat : Nat)) : Int) ∧ IntKind.wrap .u8 (((BitVec.ofInt 8 t11 &&& BitVec.ofInt 8 15).toNat : Nat)) < ((⟨#[48, 49, 50, 51, 52, 53, 54, 55, 56, 57, 97, 98, 99, 100, 101, 102]⟩ : ByteArray).size : Int) ∧
 Calls Tryz.prog 17 #[.pointer (some ⟨b, 0, none⟩), .int .u8 ((((⟨#[48, 49, 50, 51, 52, 53, 54, 55, 56, 57, 97, 98, 99, 100, 101, 102]⟩ : ByteArray).data.getD (IntKind.wrap .u8 (((BitVec.ofInt 8 t11 &&& BitVec.ofInt 8 15).toNat : Nat))).toNat 0).toNat : Nat) : Int)] w3 (fun e w4 => ∃ t19V : Value, e = .returned (t19V) ∧
 Nx0 (IntKind.wrap .i64 (t8 + 1)) w4)))) (
 Calls Tryz.prog 16 #[.pointer (some ⟨b, 0, none⟩)] w2 (fun e w5 => ∃ t21 : ByteArray, e = .returned (.string t21) ∧
 R (.string t21) w5))

def script_Hex.F (bA : Option Addr) (bN : Nat) (bC : Nat) (w : World) (R : Value → World → Prop) : Prop :=
 newBlk w (.cells #[.pointer none, .slice none 0 0] 41 (0, 0)) fun b w1 =>
 ∃ I : Nat → Int → World → Prop, (∃ n, I n 0 w1) ∧ ∀ (n9 : Nat) (dead : Nat → Value) (w2 : World) (t8 : Int), I n9 t8 w2 →
 script_Hex.L0 bA bN R b t8 w2 (fun x0 w9 => ∃ m, m < n9 ∧ I m x0 w9)

theorem script_Hex.vc (bA : Option Addr) (bN : Nat) (bC : Nat) (w : World) (R : Value → World → Prop) : fnVC Tryz.prog script_Hex.A Tryz.f7 [.slice bA bN bC] w R = script_Hex.F bA bN bC w R := by kernel_rfl
theorem script_Hex.calls (bA : Option Addr) (bN : Nat) (bC : Nat) (w : World) (R : Value → World → Prop) (h : script_Hex.F bA bN bC w R) : Calls Tryz.prog 7 #[.slice bA bN bC] w (Ret R) :=
  calls_of_vc mixed Tryz.func7 (Eq.mpr (script_Hex.vc bA bN bC w R) h)

/-! ### purlin/script.Unhex: function 8 -/
def script_Unhex.A : Ann where
  sched := fun i => match i with
    | _ => none
  loop := fun i => match i with
    | 5 => some [(2, none), (3, none), (5, none), (6, none), (7, none), (22, none), (23, none), (24, none), (25, none), (26, none), (27, none), (28, none), (29, none), (30, none), (31, none), (32, none), (33, none), (34, none), (35, none), (36, none), (37, none), (38, none), (39, none), (40, none), (41, none), (42, none), (43, none), (44, none), (45, none), (46, none), (47, none)]
    | _ => none

def script_Unhex.L0 (R : Value → World → Prop) (t19A : Option Addr) (t19N : Nat) (t19C : Nat) (t21P : Option Addr) (w3 : World) (Nx0 : World → Prop) : Prop :=
 (∃ w4 : World, (Instr.next (.pointer t21P) true 0).run Tryz.prog w3 = .ok (.tuple #[.bool false]) w4 ∧
 R (.tuple #[.slice t19A t19N t19C, .bool true]) w4) ∨
 (∃ at1 : Int, ∃ rune : Int, ∃ w5 : World, (Instr.next (.pointer t21P) true 0).run Tryz.prog w3 = .ok (.tuple #[.bool true, .int .i64 at1, .int .i32 rune]) w5 ∧
 Calls Tryz.prog 18 #[.string (⟨#[48, 49, 50, 51, 52, 53, 54, 55, 56, 57, 97, 98, 99, 100, 101, 102]⟩ : ByteArray), .int .u8 (IntKind.wrap .u8 rune)] w5 (fun e w6 => ∃ t28 : Int, e = .returned (.int .i64 t28) ∧
 br (decide (rune > 102)) (
 R (.tuple #[.slice none 0 0, .bool false]) w6) (
 br (decide (t28 < 0)) (
 R (.tuple #[.slice none 0 0, .bool false]) w6) (
 (2 : Int) ≠ 0 ∧
 (2 : Int) ≠ 0 ∧
 0 ≤ (IntKind.wrap .i64 (at1.tdiv 2) : Int) ∧ IntKind.wrap .i64 (at1.tdiv 2) < ((t19N : Nat) : Int) ∧ okP t19A (
 ∃ t42 : Int, w6.cell? ⟨(pb t19A), po t19A + (IntKind.wrap .i64 (at1.tdiv 2)).toNat * 1, none⟩ = some (.int .u8 t42) ∧
 ¬ (4 : Int) < 0 ∧
 0 ≤ (IntKind.wrap .i64 (at1.tdiv 2) : Int) ∧ IntKind.wrap .i64 (at1.tdiv 2) < ((t19N : Nat) : Int) ∧ okP t19A (
 storeC w6 (pb t19A) (po t19A + (IntKind.wrap .i64 (at1.tdiv 2)).toNat * 1) [.int .u8 (IntKind.wrap .u8 (((BitVec.ofInt 8 (IntKind.wrap .u8 (t42 * 2 ^ (min (4 : Int).toNat 8))) ||| BitVec.ofInt 8 (IntKind.wrap .u8 t28)).toNat : Nat)))] fun w7 =>
 Nx0 w7))))))

def script_Unhex.F (s : ByteArray) (w : World) (R : Value → World → Prop) : Prop :=
 br (s.toList == (⟨#[]⟩ : ByteArray).toList) (
 R (.tuple #[.slice none 0 0, .bool false]) w) (
 (2 : Int) ≠ 0 ∧
 br ((s.size : Int).tmod 2 != 0) (
 R (.tuple #[.slice none 0 0, .bool false]) w) (
 (2 : Int) ≠ 0 ∧
 ∃ t19A : Option Addr, ∃ t19N : Nat, ∃ t19C : Nat, ∃ w1 : World, (Instr.makeSlice 28 (.int .i64 (IntKind.wrap .i64 ((s.size : Int).tdiv 2))) (.int .i64 (IntKind.wrap .i64 ((s.size : Int).tdiv 2)))).run Tryz.prog w = .ok (.slice t19A t19N t19C) w1 ∧
 ∃ t21P : Option Addr, ∃ w2 : World, (Instr.range 9 (.string s)).run Tryz.prog w1 = .ok (.pointer t21P) w2 ∧
 ∃ I : Nat → World → Prop, (∃ n, I n w2) ∧ ∀ (n9 : Nat) (dead : Nat → Value) (w3 : World), I n9 w3 →
 script_Unhex.L0 R t19A t19N t19C t21P w3 (fun w9 => ∃ m, m < n9 ∧ I m w9)))

theorem script_Unhex.vc (s : ByteArray) (w : World) (R : Value → World → Prop) : fnVC Tryz.prog script_Unhex.A Tryz.f8 [.string s] w R = script_Unhex.F s w R := by kernel_rfl
theorem script_Unhex.calls (s : ByteArray) (w : World) (R : Value → World → Prop) (h : script_Unhex.F s w R) : Calls Tryz.prog 8 #[.string s] w (Ret R) :=
  calls_of_vc mixed Tryz.func8 (Eq.mpr (script_Unhex.vc s w R) h)

end Go.Proofs.YtllpiaedljoejaaGreatDoor
