/- Printed by vcgen.py: of each function of this text its weakest precondition as a formula, and that it is one. Conditions: none. -/
import Derived.Test.YtmihgfhpmnomoaaDoorVcCode
import Derived.Test.YtmihgfhpmnomoaaDoorVcMem
import Derived.Test.YtmihgfhpmnomoaaDoorChecked
namespace Go.Proofs.YtmihgfhpmnomoaaDoor
open Go.Vc
set_option linter.unusedVariables false
set_option maxRecDepth 100000

/-! ### purlin/purlinref21.Name: function 9 -/
def purlinref21_Name.A : Ann where
  sched := fun i => match i with
    | 7 => some (none, .still 0 false 502 <| .still 1 false 497 <| .still 2 false 499 <| .still 3 false 503 <| .still 4 false 527 <| .still 5 false 543 <| .still 6 false 575 <| .still 7 false 639 <| .still 8 false 767 <| .still 9 false 511 <| .still 10 false 1023 <| .done)
    | _ => none
  loop := fun i => match i with
    | 3 => some [(2, none), (3, none), (4, some (.one (.int .i64))), (5, some (.one (.int .i64))), (6, some (.one (.int .i64))), (7, none), (8, none), (9, none), (10, none), (11, none), (12, none), (13, none), (14, none), (15, none), (16, none), (17, none), (18, none), (19, none), (20, none), (21, none), (22, none), (23, none), (24, none), (25, none), (26, none), (27, none), (28, none), (29, none)]
    | _ => none

def purlinref21_Name.L0 (op : Int) (R : Value → World → Prop) (n1 : Int) (from1 : Int) (i : Int) (w1 : World) (Nx0 : Int → Int → Int → World → Prop) : Prop :=
 br (decide (i < 241)) (
 0 ≤ (i : Int) ∧ i < ((⟨#[115, 101, 109, 119, 97, 105, 116, 50, 32, 115, 101, 109, 115, 105, 103, 110, 97, 108, 49, 32, 115, 101, 109, 99, 111, 117, 110, 116, 49, 32, 101, 118, 101, 110, 116, 119, 97, 105, 116, 50, 32, 101, 118, 101, 110, 116, 115, 101, 116, 49, 32, 101, 118, 101, 110, 116, 114, 101, 115, 101, 116, 49, 32, 101, 118, 101, 110, 116, 117, 112, 49, 32, 115, 108, 101, 101, 112, 49, 32, 121, 105, 101, 108, 100, 48, 32, 115, 116, 97, 114, 116, 49, 32, 115, 116, 111, 112, 49, 32, 115, 117, 115, 112, 101, 110, 100, 49, 32, 114, 101, 115, 117, 109, 101, 49, 32, 114, 97, 105, 115, 101, 50, 32, 115, 116, 97, 116, 117, 115, 49, 32, 115, 101, 108, 102, 48, 32, 110, 111, 119, 48, 32, 101, 120, 105, 116, 48, 32, 109, 111, 100, 101, 48, 32, 114, 101, 115, 116, 97, 114, 116, 48, 32, 105, 100, 108, 101, 48, 32, 102, 97, 117, 108, 116, 49, 32, 115, 101, 110, 100, 51, 32, 114, 101, 99, 101, 105, 118, 101, 49, 32, 119, 114, 105, 116, 101, 51, 32, 114, 101, 97, 100, 49, 32, 112, 111, 114, 116, 108, 101, 110, 49, 32, 112, 111, 114, 116, 114, 111, 111, 109, 49, 32, 108, 111, 103, 108, 101, 110, 48, 32, 108, 111, 103, 101, 110, 116, 114, 121, 49, 32]⟩ : ByteArray).size : Int) ∧
 br (((((⟨#[115, 101, 109, 119, 97, 105, 116, 50, 32, 115, 101, 109, 115, 105, 103, 110, 97, 108, 49, 32, 115, 101, 109, 99, 111, 117, 110, 116, 49, 32, 101, 118, 101, 110, 116, 119, 97, 105, 116, 50, 32, 101, 118, 101, 110, 116, 115, 101, 116, 49, 32, 101, 118, 101, 110, 116, 114, 101, 115, 101, 116, 49, 32, 101, 118, 101, 110, 116, 117, 112, 49, 32, 115, 108, 101, 101, 112, 49, 32, 121, 105, 101, 108, 100, 48, 32, 115, 116, 97, 114, 116, 49, 32, 115, 116, 111, 112, 49, 32, 115, 117, 115, 112, 101, 110, 100, 49, 32, 114, 101, 115, 117, 109, 101, 49, 32, 114, 97, 105, 115, 101, 50, 32, 115, 116, 97, 116, 117, 115, 49, 32, 115, 101, 108, 102, 48, 32, 110, 111, 119, 48, 32, 101, 120, 105, 116, 48, 32, 109, 111, 100, 101, 48, 32, 114, 101, 115, 116, 97, 114, 116, 48, 32, 105, 100, 108, 101, 48, 32, 102, 97, 117, 108, 116, 49, 32, 115, 101, 110, 100, 51, 32, 114, 101, 99, 101, 105, 118, 101, 49, 32, 119, 114, 105, 116, 101, 51, 32, 114, 101, 97, 100, 49, 32, 112, 111, 114, 116, 108, 101, 110, 49, 32, 112, 111, 114, 116, 114, 111, 111, 109, 49, 32, 108, 111, 103, 108, 101, 110, 48, 32, 108, 111, 103, 101, 110, 116, 114, 121, 49, 32]⟩ : ByteArray).data.getD i.toNat 0).toNat : Nat) : Int) != 32) (
 Nx0 n1 from1 (IntKind.wrap .i64 (i + 1)) w1) (
 br (n1 == op) (
 drawC w1 fun w3 =>
 0 ≤ IntKind.wrap .i64 (i - 1) ∧ IntKind.wrap .i64 (i - 1) ≤ ((⟨#[115, 101, 109, 119, 97, 105, 116, 50, 32, 115, 101, 109, 115, 105, 103, 110, 97, 108, 49, 32, 115, 101, 109, 99, 111, 117, 110, 116, 49, 32, 101, 118, 101, 110, 116, 119, 97, 105, 116, 50, 32, 101, 118, 101, 110, 116, 115, 101, 116, 49, 32, 101, 118, 101, 110, 116, 114, 101, 115, 101, 116, 49, 32, 101, 118, 101, 110, 116, 117, 112, 49, 32, 115, 108, 101, 101, 112, 49, 32, 121, 105, 101, 108, 100, 48, 32, 115, 116, 97, 114, 116, 49, 32, 115, 116, 111, 112, 49, 32, 115, 117, 115, 112, 101, 110, 100, 49, 32, 114, 101, 115, 117, 109, 101, 49, 32, 114, 97, 105, 115, 101, 50, 32, 115, 116, 97, 116, 117, 115, 49, 32, 115, 101, 108, 102, 48, 32, 110, 111, 119, 48, 32, 101, 120, 105, 116, 48, 32, 109, 111, 100, 101, 48, 32, 114, 101, 115, 116, 97, 114, 116, 48, 32, 105, 100, 108, 101, 48, 32, 102, 97, 117, 108, 116, 49, 32, 115, 101, 110, 100, 51, 32, 114, 101, 99, 101, 105, 118, 101, 49, 32, 119, 114, 105, 116, 101, 51, 32, 114, 101, 97, 100, 49, 32, 112, 111, 114, 116, 108, 101, 110, 49, 32, 112, 111, 114, 116, 114, 111, 111, 109, 49, 32, 108, 111, 103, 108, 101, 110, 48, 32, 108, 111, 103, 101, 110, 116, 114, 121, 49, 32]⟩ : ByteArray).size : Int) ∧ 0 ≤ from1 ∧ from1 ≤ ((IntKind.wrap .i64 (i - 1)).toNat : Int) ∧
 0 ≤ (IntKind.wrap .i64 (i - 1) : Int) ∧ IntKind.wrap .i64 (i - 1) < ((⟨#[115, 101, 109, 119, 97, 105, 116, 50, 32, 115, 101, 109, 115, 105, 103, 110, 97, 108, 49, 32, 115, 101, 109, 99, 111, 117, 110, 116, 49, 32, 101, 118, 101, 110, 116, 119, 97, 105, 116, 50, 32, 101, 118, 101, 110, 116, 115, 101, 116, 49, 32, 101, 118, 101, 110, 116, 114, 101, 115, 101, 116, 49, 32, 101, 118, 101, 110, 116, 117, 112, 49, 32, 115, 108, 101, 101, 112, 49, 32, 121, 105, 101, 108, 100, 48, 32, 115, 116, 97, 114, 116, 49, 32, 115, 116, 111, 112, 49, 32, 115, 117, 115, 112, 101, 110, 100, 49, 32, 114, 101, 115, 117, 109, 101, 49, 32, 114, 97, 105, 115, 101, 50, 32, 115, 116, 97, 116, 117, 115, 49, 32, 115, 101, 108, 102, 48, 32, 110, 111, 119, 48, 32, 101, 120, 105, 116, 48, 32, 109, 111, 100, 101, 48, 32, 114, 101, 115, 116, 97, 114, 116, 48, 32, 105, 100, 108, 101, 48, 32, 102, 97, 117, 108, 116, 49, 32, 115, 101, 110, 100, 51, 32, 114, 101, 99, 101, 105, 118, 101, 49, 32, 119, 114, 105, 116, 101, 51, 32, 114, 101, 97, 100, 49, 32, 112, 111, 114, 116, 108, 101, 110, 49, 32, 112, 111, 114, 116, 114, 111, 111, 109, 49, 32, 108, 111, 103, 108, 101, 110, 48, 32, 108, 111, 103, 101, 110, 116, 114, 121, 49, 32]⟩ : ByteArray).size : Int) ∧
 R (.tuple #[.string ((⟨#[115, 101, 109, 119, 97, 105, 116, 50, 32, 115, 101, 109, 115, 105, 103, 110, 97, 108, 49, 32, 115, 101, 109, 99, 111, 117, 110, 116, 49, 32, 101, 118, 101, 110, 116, 119, 97, 105, 116, 50, 32, 101, 118, 101, 110, 116, 115, 101, 116, 49, 32, 101, 118, 101, 110, 116, 114, 101, 115, 101, 116, 49, 32, 101, 118, 101, 110, 116, 117, 112, 49, 32, 115, 108, 101, 101, 112, 49, 32, 121, 105, 101, 108, 100, 48, 32, 115, 116, 97, 114, 116, 49, 32, 115, 116, 111, 112, 49, 32, 115, 117, 115, 112, 101, 110, 100, 49, 32, 114, 101, 115, 117, 109, 101, 49, 32, 114, 97, 105, 115, 101, 50, 32, 115, 116, 97, 116, 117, 115, 49, 32, 115, 101, 108, 102, 48, 32, 110, 111, 119, 48, 32, 101, 120, 105, 116, 48, 32, 109, 111, 100, 101, 48, 32, 114, 101, 115, 116, 97, 114, 116, 48, 32, 105, 100, 108, 101, 48, 32, 102, 97, 117, 108, 116, 49, 32, 115, 101, 110, 100, 51, 32, 114, 101, 99, 101, 105, 118, 101, 49, 32, 119, 114, 105, 116, 101, 51, 32, 114, 101, 97, 100, 49, 32, 112, 111, 114, 116, 108, 101, 110, 49, 32, 112, 111, 114, 116, 114, 111, 111, 109, 49, 32, 108, 111, 103, 108, 101, 110, 48, 32, 108, 111, 103, 101, 110, 116, 114, 121, 49, 32]⟩ : ByteArray).extract from1.toNat (IntKind.wrap .i64 (i - 1)).toNat), .int .i64 (IntKind.wrap .i64 (IntKind.wrap .u8 (((((⟨#[115, 101, 109, 119, 97, 105, 116, 50, 32, 115, 101, 109, 115, 105, 103, 110, 97, 108, 49, 32, 115, 101, 109, 99, 111, 117, 110, 116, 49, 32, 101, 118, 101, 110, 116, 119, 97, 105, 116, 50, 32, 101, 118, 101, 110, 116, 115, 101, 116, 49, 32, 101, 118, 101, 110, 116, 114, 101, 115, 101, 116, 49, 32, 101, 118, 101, 110, 116, 117, 112, 49, 32, 115, 108, 101, 101, 112, 49, 32, 121, 105, 101, 108, 100, 48, 32, 115, 116, 97, 114, 116, 49, 32, 115, 116, 111, 112, 49, 32, 115, 117, 115, 112, 101, 110, 100, 49, 32, 114, 101, 115, 117, 109, 101, 49, 32, 114, 97, 105, 115, 101, 50, 32, 115, 116, 97, 116, 117, 115, 49, 32, 115, 101, 108, 102, 48, 32, 110, 111, 119, 48, 32, 101, 120, 105, 116, 48, 32, 109, 111, 100, 101, 48, 32, 114, 101, 115, 116, 97, 114, 116, 48, 32, 105, 100, 108, 101, 48, 32, 102, 97, 117, 108, 116, 49, 32, 115, 101, 110, 100, 51, 32, 114, 101, 99, 101, 105, 118, 101, 49, 32, 119, 114, 105, 116, 101, 51, 32, 114, 101, 97, 100, 49, 32, 112, 111, 114, 116, 108, 101, 110, 49, 32, 112, 111, 114, 116, 114, 111, 111, 109, 49, 32, 108, 111, 103, 108, 101, 110, 48, 32, 108, 111, 103, 101, 110, 116, 114, 121, 49, 32]⟩ : ByteArray).data.getD (IntKind.wrap .i64 (i - 1)).toNat 0).toNat : Nat) : Int) - 48)))]) w3) (
 Nx0 (IntKind.wrap .i64 (n1 + 1)) (IntKind.wrap .i64 (i + 1)) (IntKind.wrap .i64 (i + 1)) w1))) (
 R (.tuple #[.string (⟨#[]⟩ : ByteArray), .int .i64 0]) w1)

def purlinref21_Name.F (op : Int) (w : World) (R : Value → World → Prop) : Prop :=
 ∃ I : Nat → Int → Int → Int → World → Prop, (∃ n, I n 1 0 0 w) ∧ ∀ (n9 : Nat) (dead : Nat → Value) (w1 : World) (n1 : Int) (from1 : Int) (i : Int), I n9 n1 from1 i w1 →
 purlinref21_Name.L0 op R n1 from1 i w1 (fun x0 x1 x2 w9 => ∃ m, m < n9 ∧ I m x0 x1 x2 w9)

theorem purlinref21_Name.vc (op : Int) (w : World) (R : Value → World → Prop) : fnVC Tryd.prog purlinref21_Name.A Tryd.f9 [.int .i64 op] w R = purlinref21_Name.F op w R := by kernel_rfl
theorem purlinref21_Name.calls (op : Int) (w : World) (R : Value → World → Prop) (h : purlinref21_Name.F op w R) : Calls Tryd.prog 9 #[.int .i64 op] w (Ret R) :=
  calls_of_vc mixed Tryd.func9 (Eq.mpr (purlinref21_Name.vc op w R) h)

/-! ### purlin/purlinref21.Show: function 24 -/
def purlinref21_Show.A : Ann where
  sched := fun i => match i with
    | _ => none
  loop := fun i => match i with
    | 4 => some [(3, some (.one (.int .u64))), (4, some (.one (.str))), (11, none), (12, none), (13, none), (14, none), (15, none), (16, none), (17, none), (18, none), (19, none), (20, none), (21, none), (22, none), (23, none), (24, none), (25, none), (26, none)]
    | _ => none

def purlinref21_Show.K0 (u1 : Int) (s : ByteArray) (w2 : World) (Nx0 : Int → ByteArray → World → Prop) : Prop :=
 (10 : Int) ≠ 0 ∧
 newBlk w2 (.cells #[.int .u8 (IntKind.wrap .u8 (48 + (IntKind.wrap .u8 (u1.tmod 10))))] 5 (0, 0)) fun b w3 =>
 ∃ t22 : ByteArray, ∃ w4 : World, (convert 66 9 (.slice (some ⟨b, 0, none⟩) 1 1)).run Tryd.prog w3 = .ok (.string t22) w4 ∧
 ((t22.size + s.size : Nat) : Int) ≤ 9223372036854775807 ∧
 (10 : Int) ≠ 0 ∧
 Nx0 (IntKind.wrap .u64 (u1.tdiv 10)) (t22 ++ s) w4

def purlinref21_Show.L0 (n1 : Int) (R : Value → World → Prop) (u1 : Int) (s : ByteArray) (w2 : World) (Nx0 : Int → ByteArray → World → Prop) : Prop :=
 br (decide (u1 > 0)) (
 purlinref21_Show.K0 u1 s w2 Nx0) (
 br (s.toList == (⟨#[]⟩ : ByteArray).toList) (
 purlinref21_Show.K0 u1 s w2 Nx0) (
 br (decide (n1 < 0)) (
 (((⟨#[45]⟩ : ByteArray).size + s.size : Nat) : Int) ≤ 9223372036854775807 ∧
 R (.string ((⟨#[45]⟩ : ByteArray) ++ s)) w2) (
 R (.string s) w2)))

def purlinref21_Show.K1 (n1 : Int) (R : Value → World → Prop) (u : Int) (w1 : World) : Prop :=
 ∃ I : Nat → Int → ByteArray → World → Prop, (∃ n, I n u (⟨#[]⟩ : ByteArray) w1) ∧ ∀ (n9 : Nat) (dead : Nat → Value) (w2 : World) (u1 : Int) (s : ByteArray), I n9 u1 s w2 →
 purlinref21_Show.L0 n1 R u1 s w2 (fun x0 x1 w9 => ∃ m, m < n9 ∧ I m x0 x1 w9)

def purlinref21_Show.F (n1 : Int) (w : World) (R : Value → World → Prop) : Prop :=
 br (decide (n1 < 0)) (
 purlinref21_Show.K1 n1 R (IntKind.wrap .u64 (0 - IntKind.wrap .u64 n1)) w) (
 purlinref21_Show.K1 n1 R (IntKind.wrap .u64 n1) w)

theorem purlinref21_Show.vc (n1 : Int) (w : World) (R : Value → World → Prop) : fnVC Tryd.prog purlinref21_Show.A Tryd.f24 [.int .i64 n1] w R = purlinref21_Show.F n1 w R := by kernel_rfl
theorem purlinref21_Show.calls (n1 : Int) (w : World) (R : Value → World → Prop) (h : purlinref21_Show.F n1 w R) : Calls Tryd.prog 24 #[.int .i64 n1] w (Ret R) :=
  calls_of_vc mixed Tryd.func24 (Eq.mpr (purlinref21_Show.vc n1 w R) h)

/-! ### purlin/purlinref21.Right: function 23 -/
def purlinref21_Right.A : Ann where
  sched := fun i => match i with
    | _ => none
  loop := fun i => match i with
    | _ => none

def purlinref21_Right.F (x : Int) (x1 : Int) (x2 : Int) (x3 : ByteArray) (w : World) (R : Value → World → Prop) : Prop :=
 newBlk w (.cells #[.int .i64 x, .int .i64 x1, .int .i64 x2, .string x3] 30 (0, 0)) fun b w1 =>
 ∃ t7 : Int, w1.cell? ⟨b, 0, none⟩ = some (.int .i64 t7) ∧
 Calls Tryd.prog 9 #[.int .i64 t7] w1 (fun e w2 => ∃ t8 : ByteArray, ∃ t81 : Int, e = .returned (.tuple #[.string t8, .int .i64 t81]) ∧
 br (t8.toList == (⟨#[]⟩ : ByteArray).toList) (
 R (.int .i64 211) w2) (
 br (t81 == 0) (
 ∃ t17 : Int, w2.cell? ⟨b, 1, none⟩ = some (.int .i64 t17) ∧
 br (t17 != 0) (
 R (.int .i64 220) w2) (
 br (t81 != 2) (
 ∃ t25 : Int, w2.cell? ⟨b, 2, none⟩ = some (.int .i64 t25) ∧
 br (t25 != 0) (
 R (.int .i64 220) w2) (
 br (t81 != 3) (
 ∃ t34 : ByteArray, w2.cell? ⟨b, 3, none⟩ = some (.string t34) ∧
 br (!(t34.toList == (⟨#[]⟩ : ByteArray).toList)) (
 R (.int .i64 220) w2) (
 R (.int .i64 0) w2)) (
 R (.int .i64 0) w2))) (
 br (t81 != 3) (
 ∃ t341 : ByteArray, w2.cell? ⟨b, 3, none⟩ = some (.string t341) ∧
 br (!(t341.toList == (⟨#[]⟩ : ByteArray).toList)) (
 R (.int .i64 220) w2) (
 R (.int .i64 0) w2)) (
 R (.int .i64 0) w2)))) (
 br (t81 != 2) (
 ∃ t251 : Int, w2.cell? ⟨b, 2, none⟩ = some (.int .i64 t251) ∧
 br (t251 != 0) (
 R (.int .i64 220) w2) (
 br (t81 != 3) (
 ∃ t342 : ByteArray, w2.cell? ⟨b, 3, none⟩ = some (.string t342) ∧
 br (!(t342.toList == (⟨#[]⟩ : ByteArray).toList)) (
 R (.int .i64 220) w2) (
 R (.int .i64 0) w2)) (
 R (.int .i64 0) w2))) (
 br (t81 != 3) (
 ∃ t343 : ByteArray, w2.cell? ⟨b, 3, none⟩ = some (.string t343) ∧
 br (!(t343.toList == (⟨#[]⟩ : ByteArray).toList)) (
 R (.int .i64 220) w2) (
 R (.int .i64 0) w2)) (
 R (.int .i64 0) w2)))))

theorem purlinref21_Right.vc (x : Int) (x1 : Int) (x2 : Int) (x3 : ByteArray) (w : World) (R : Value → World → Prop) : fnVC Tryd.prog purlinref21_Right.A Tryd.f23 [.agg #[.int .i64 x, .int .i64 x1, .int .i64 x2, .string x3]] w R = purlinref21_Right.F x x1 x2 x3 w R := by kernel_rfl
theorem purlinref21_Right.calls (x : Int) (x1 : Int) (x2 : Int) (x3 : ByteArray) (w : World) (R : Value → World → Prop) (h : purlinref21_Right.F x x1 x2 x3 w R) : Calls Tryd.prog 23 #[.agg #[.int .i64 x, .int .i64 x1, .int .i64 x2, .string x3]] w (Ret R) :=
  calls_of_vc mixed Tryd.func23 (Eq.mpr (purlinref21_Right.vc x x1 x2 x3 w R) h)

/-! ### purlin/purlinref21.Text: function 15 -/
def purlinref21_Text.A : Ann where
  sched := fun i => match i with
    | _ => none
  loop := fun i => match i with
    | _ => none

def purlinref21_Text.K0 (R : Value → World → Prop) (b : Nat) (t151 : Int) (s1 : ByteArray) (w7 : World) : Prop :=
 br (t151 == 3) (
 ∃ t38 : ByteArray, w7.cell? ⟨b, 3, none⟩ = some (.string t38) ∧
 (((⟨#[32, 61]⟩ : ByteArray).size + t38.size : Nat) : Int) ≤ 9223372036854775807 ∧
 ((s1.size + ((⟨#[32, 61]⟩ : ByteArray) ++ t38).size : Nat) : Int) ≤ 9223372036854775807 ∧
 R (.tuple #[.string (s1 ++ ((⟨#[32, 61]⟩ : ByteArray) ++ t38)), .int .i64 0]) w7) (
 R (.tuple #[.string s1, .int .i64 0]) w7)

def purlinref21_Text.K1 (R : Value → World → Prop) (b : Nat) (t151 : Int) (s : ByteArray) (w5 : World) : Prop :=
 br (t151 == 2) (
 ∃ t30 : Int, w5.cell? ⟨b, 2, none⟩ = some (.int .i64 t30) ∧
 Calls Tryd.prog 24 #[.int .i64 t30] w5 (fun e w6 => ∃ t31 : ByteArray, e = .returned (.string t31) ∧
 (((⟨#[32]⟩ : ByteArray).size + t31.size : Nat) : Int) ≤ 9223372036854775807 ∧
 ((s.size + ((⟨#[32]⟩ : ByteArray) ++ t31).size : Nat) : Int) ≤ 9223372036854775807 ∧
 purlinref21_Text.K0 R b t151 (s ++ ((⟨#[32]⟩ : ByteArray) ++ t31)) w6)) (
 purlinref21_Text.K0 R b t151 s w5)

def purlinref21_Text.F (x : Int) (x1 : Int) (x2 : Int) (x3 : ByteArray) (w : World) (R : Value → World → Prop) : Prop :=
 newBlk w (.cells #[.int .i64 x, .int .i64 x1, .int .i64 x2, .string x3] 30 (0, 0)) fun b w1 =>
 ∃ t7 : Int, w1.cell? ⟨b, 0, none⟩ = some (.int .i64 t7) ∧ ∃ t71 : Int, w1.cell? ⟨b, 1, none⟩ = some (.int .i64 t71) ∧ ∃ t72 : Int, w1.cell? ⟨b, 2, none⟩ = some (.int .i64 t72) ∧ ∃ t73 : ByteArray, w1.cell? ⟨b, 3, none⟩ = some (.string t73) ∧ 
 Calls Tryd.prog 23 #[.agg #[.int .i64 t7, .int .i64 t71, .int .i64 t72, .string t73]] w1 (fun e w2 => ∃ t8 : Int, e = .returned (.int .i64 t8) ∧
 br (t8 != 0) (
 R (.tuple #[.string (⟨#[]⟩ : ByteArray), .int .i64 t8]) w2) (
 ∃ t14 : Int, w2.cell? ⟨b, 0, none⟩ = some (.int .i64 t14) ∧
 Calls Tryd.prog 9 #[.int .i64 t14] w2 (fun e w3 => ∃ t15 : ByteArray, ∃ t151 : Int, e = .returned (.tuple #[.string t15, .int .i64 t151]) ∧
 br (decide (t151 > 0)) (
 ∃ t22 : Int, w3.cell? ⟨b, 1, none⟩ = some (.int .i64 t22) ∧
 Calls Tryd.prog 24 #[.int .i64 t22] w3 (fun e w4 => ∃ t23 : ByteArray, e = .returned (.string t23) ∧
 (((⟨#[32]⟩ : ByteArray).size + t23.size : Nat) : Int) ≤ 9223372036854775807 ∧
 ((t15.size + ((⟨#[32]⟩ : ByteArray) ++ t23).size : Nat) : Int) ≤ 9223372036854775807 ∧
 purlinref21_Text.K1 R b t151 (t15 ++ ((⟨#[32]⟩ : ByteArray) ++ t23)) w4)) (
 purlinref21_Text.K1 R b t151 t15 w3))))

theorem purlinref21_Text.vc (x : Int) (x1 : Int) (x2 : Int) (x3 : ByteArray) (w : World) (R : Value → World → Prop) : fnVC Tryd.prog purlinref21_Text.A Tryd.f15 [.agg #[.int .i64 x, .int .i64 x1, .int .i64 x2, .string x3]] w R = purlinref21_Text.F x x1 x2 x3 w R := by kernel_rfl
theorem purlinref21_Text.calls (x : Int) (x1 : Int) (x2 : Int) (x3 : ByteArray) (w : World) (R : Value → World → Prop) (h : purlinref21_Text.F x x1 x2 x3 w R) : Calls Tryd.prog 15 #[.agg #[.int .i64 x, .int .i64 x1, .int .i64 x2, .string x3]] w (Ret R) :=
  calls_of_vc mixed Tryd.func15 (Eq.mpr (purlinref21_Text.vc x x1 x2 x3 w R) h)

/-! ### purlin/purlinref21.Number: function 29 -/
def purlinref21_Number.A : Ann where
  sched := fun i => match i with
    | _ => none
  loop := fun i => match i with
    | 8 => some [(2, none), (3, none), (5, some (.one (.int .u64))), (6, some (.one (.int .i64))), (26, none), (27, none), (28, none), (29, none), (30, none), (31, none), (32, none), (33, none), (34, none), (35, none), (36, none), (37, none), (38, none), (39, none), (40, none), (41, none), (42, none), (43, none), (44, none), (45, none), (46, none), (47, none), (48, none), (49, none)]
    | _ => none

def purlinref21_Number.L0 (s : ByteArray) (R : Value → World → Prop) (d : ByteArray) (u : Int) (i : Int) (w2 : World) (Nx0 : Int → Int → World → Prop) : Prop :=
 br (decide (i < (d.size : Int))) (
 0 ≤ (i : Int) ∧ i < (d.size : Int) ∧
 br (decide ((((d.data.getD i.toNat 0).toNat : Nat) : Int) < 48)) (
 R (.tuple #[.int .i64 0, .bool false]) w2) (
 0 ≤ (i : Int) ∧ i < (d.size : Int) ∧
 br (decide ((((d.data.getD i.toNat 0).toNat : Nat) : Int) > 57)) (
 R (.tuple #[.int .i64 0, .bool false]) w2) (
 0 ≤ (i : Int) ∧ i < (d.size : Int) ∧
 Nx0 (IntKind.wrap .u64 (IntKind.wrap .u64 (10 * u) + (IntKind.wrap .u64 (IntKind.wrap .u8 ((((d.data.getD i.toNat 0).toNat : Nat) : Int) - 48))))) (IntKind.wrap .i64 (i + 1)) w2))) (
 br (decide ((d.size : Int) < (s.size : Int))) (
 Calls Tryd.prog 24 #[.int .i64 (IntKind.wrap .i64 (IntKind.wrap .u64 (0 - u)))] w2 (fun e w4 => ∃ t62 : ByteArray, e = .returned (.string t62) ∧
 R (.tuple #[.int .i64 (IntKind.wrap .i64 (IntKind.wrap .u64 (0 - u))), .bool (t62.toList == s.toList)]) w4)) (
 Calls Tryd.prog 24 #[.int .i64 (IntKind.wrap .i64 u)] w2 (fun e w4 => ∃ t62 : ByteArray, e = .returned (.string t62) ∧
 R (.tuple #[.int .i64 (IntKind.wrap .i64 u), .bool (t62.toList == s.toList)]) w4)))

def purlinref21_Number.K0 (s : ByteArray) (R : Value → World → Prop) (d : ByteArray) (w1 : World) : Prop :=
 br (d.toList == (⟨#[]⟩ : ByteArray).toList) (
 R (.tuple #[.int .i64 0, .bool false]) w1) (
 br (decide ((d.size : Int) > 19)) (
 R (.tuple #[.int .i64 0, .bool false]) w1) (
 ∃ I : Nat → Int → Int → World → Prop, (∃ n, I n 0 0 w1) ∧ ∀ (n9 : Nat) (dead : Nat → Value) (w2 : World) (u : Int) (i : Int), I n9 u i w2 →
 purlinref21_Number.L0 s R d u i w2 (fun x0 x1 w9 => ∃ m, m < n9 ∧ I m x0 x1 w9)))

def purlinref21_Number.F (s : ByteArray) (w : World) (R : Value → World → Prop) : Prop :=
 br (decide ((s.size : Int) > 0)) (
 0 ≤ (0 : Int) ∧ 0 < (s.size : Int) ∧
 br ((((s.data.getD (0 : Int).toNat 0).toNat : Nat) : Int) == 45) (
 0 ≤ (1 : Int) ∧ (1 : Int) ≤ (s.size : Int) ∧
 purlinref21_Number.K0 s R (s.extract (1 : Int).toNat s.size) w) (
 purlinref21_Number.K0 s R s w)) (
 purlinref21_Number.K0 s R s w)

theorem purlinref21_Number.vc (s : ByteArray) (w : World) (R : Value → World → Prop) : fnVC Tryd.prog purlinref21_Number.A Tryd.f29 [.string s] w R = purlinref21_Number.F s w R := by kernel_rfl
theorem purlinref21_Number.calls (s : ByteArray) (w : World) (R : Value → World → Prop) (h : purlinref21_Number.F s w R) : Calls Tryd.prog 29 #[.string s] w (Ret R) :=
  calls_of_vc mixed Tryd.func29 (Eq.mpr (purlinref21_Number.vc s w R) h)

/-! ### purlin/purlinref21.words: function 28 -/
def purlinref21_words.A : Ann where
  sched := fun i => match i with
    | _ => none
  loop := fun i => match i with
    | 3 => some [(5, some (.one (.slice))), (6, some (.one (.int .i64))), (7, some (.one (.int .i64))), (9, none), (10, none), (11, none), (12, none), (13, none), (14, none), (15, none), (16, none), (17, none), (18, none), (19, none), (20, none), (21, none), (22, none), (23, none), (24, none), (25, none), (26, none), (27, none), (28, none), (29, none), (30, none), (31, none), (32, none), (33, none), (34, none)]
    | _ => none

def purlinref21_words.K0 (s : ByteArray) (R : Value → World → Prop) (outA : Option Addr) (outN : Nat) (outC : Nat) (from1 : Int) (w2 : World) : Prop :=
 0 ≤ from1 ∧ from1 ≤ (s.size : Int) ∧
 newBlk w2 (.cells #[.string (s.extract from1.toNat s.size)] 9 (0, 0)) fun b2 w6 =>
 ∃ t40A : Option Addr, ∃ t40N : Nat, ∃ t40C : Nat, ∃ w7 : World, (Builtin.append_ #[61, 61] 61 #[.slice outA outN outC, .slice (some ⟨b2, 0, none⟩) 1 1]).run Tryd.prog w6 = .ok (.slice t40A t40N t40C) w7 ∧
 R (.slice t40A t40N t40C) w7

def purlinref21_words.L0 (s : ByteArray) (most : Int) (R : Value → World → Prop) (outA : Option Addr) (outN : Nat) (outC : Nat) (from1 : Int) (i : Int) (w2 : World) (Nx0 : Option Addr → Nat → Nat → Int → Int → World → Prop) : Prop :=
 br (decide (i < (s.size : Int))) (
 br (decide (((outN : Nat) : Int) < IntKind.wrap .i64 (most - 1))) (
 0 ≤ (i : Int) ∧ i < (s.size : Int) ∧
 br ((((s.data.getD i.toNat 0).toNat : Nat) : Int) == 32) (
 0 ≤ i ∧ i ≤ (s.size : Int) ∧ 0 ≤ from1 ∧ from1 ≤ (i.toNat : Int) ∧
 newBlk w2 (.cells #[.string (s.extract from1.toNat i.toNat)] 9 (0, 0)) fun b1 w3 =>
 ∃ t32A : Option Addr, ∃ t32N : Nat, ∃ t32C : Nat, ∃ w4 : World, (Builtin.append_ #[61, 61] 61 #[.slice outA outN outC, .slice (some ⟨b1, 0, none⟩) 1 1]).run Tryd.prog w3 = .ok (.slice t32A t32N t32C) w4 ∧
 Nx0 t32A t32N t32C (IntKind.wrap .i64 (i + 1)) (IntKind.wrap .i64 (i + 1)) w4) (
 Nx0 outA outN outC from1 (IntKind.wrap .i64 (i + 1)) w2)) (
 purlinref21_words.K0 s R outA outN outC from1 w2)) (
 purlinref21_words.K0 s R outA outN outC from1 w2)

def purlinref21_words.F (s : ByteArray) (most : Int) (w : World) (R : Value → World → Prop) : Prop :=
 newBlk w (.cells #[] 9 (0, 0)) fun b w1 =>
 ∃ I : Nat → Option Addr → Nat → Nat → Int → Int → World → Prop, (∃ n, I n (some ⟨b, 0, none⟩) 0 0 0 0 w1) ∧ ∀ (n9 : Nat) (dead : Nat → Value) (w2 : World) (outA : Option Addr) (outN : Nat) (outC : Nat) (from1 : Int) (i : Int), I n9 outA outN outC from1 i w2 →
 purlinref21_words.L0 s most R outA outN outC from1 i w2 (fun x0 x1 x2 x3 x4 w9 => ∃ m, m < n9 ∧ I m x0 x1 x2 x3 x4 w9)

theorem purlinref21_words.vc (s : ByteArray) (most : Int) (w : World) (R : Value → World → Prop) : fnVC Tryd.prog purlinref21_words.A Tryd.f28 [.string s, .int .i64 most] w R = purlinref21_words.F s most w R := by kernel_rfl
theorem purlinref21_words.calls (s : ByteArray) (most : Int) (w : World) (R : Value → World → Prop) (h : purlinref21_words.F s most w R) : Calls Tryd.prog 28 #[.string s, .int .i64 most] w (Ret R) :=
  calls_of_vc mixed Tryd.func28 (Eq.mpr (purlinref21_words.vc s most w R) h)

/-! ### purlin/purlinref21.Parse: function 17 -/
def purlinref21_Parse.A : Ann where
  sched := fun i => match i with
    | _ => none
  loop := fun i => match i with
    | 4 => some [(3, none), (6, some (.one (.int .i64))), (7, none), (8, none), (9, none), (10, none), (11, none), (12, none), (13, none), (17, none), (18, none), (19, none), (20, none), (21, none), (22, none), (23, none), (24, none), (25, none), (26, none), (27, none), (28, none), (29, none), (30, none), (31, none), (32, none), (33, none), (34, none), (35, none), (36, none), (37, none), (38, none), (39, none), (40, none), (41, none), (42, none), (43, none), (44, none), (45, none), (46, none), (47, none), (48, none), (49, none), (50, none), (51, none), (52, none), (53, none), (54, none), (55, none), (56, none), (57, none), (58, none), (59, none), (60, none), (61, none), (62, none), (63, none), (64, none), (65, none), (66, none), (67, none), (68, none), (69, none), (70, none), (71, none), (72, none), (73, none), (74, none), (75, none), (76, none), (77, none), (78, none), (79, none), (80, none), (81, none), (82, none), (83, none), (84, none), (85, none), (86, none), (87, none), (88, none), (89, none), (90, none), (91, none), (92, none), (93, none), (94, none)]
    | _ => none

def purlinref21_Parse.K0 (R : Value → World → Prop) (b : Nat) (w21 : World) : Prop :=
 ∃ r4 : Int, w21.cell? ⟨b, 0, none⟩ = some (.int .i64 r4) ∧ ∃ r5 : Int, w21.cell? ⟨b, 1, none⟩ = some (.int .i64 r5) ∧ ∃ r6 : Int, w21.cell? ⟨b, 2, none⟩ = some (.int .i64 r6) ∧ ∃ r7 : ByteArray, w21.cell? ⟨b, 3, none⟩ = some (.string r7) ∧ 
 R (.tuple #[.agg #[.int .i64 r4, .int .i64 r5, .int .i64 r6, .string r7], .int .i64 223]) w21

def purlinref21_Parse.K1 (R : Value → World → Prop) (b : Nat) (b2 : Nat) (w22 : World) : Prop :=
 ∃ t94 : Int, w22.cell? ⟨b2, 0, none⟩ = some (.int .i64 t94) ∧ ∃ t941 : Int, w22.cell? ⟨b2, 1, none⟩ = some (.int .i64 t941) ∧ ∃ t942 : Int, w22.cell? ⟨b2, 2, none⟩ = some (.int .i64 t942) ∧ ∃ t943 : ByteArray, w22.cell? ⟨b2, 3, none⟩ = some (.string t943) ∧ 
 storeC w22 b 0 [.int .i64 t94, .int .i64 t941, .int .i64 t942, .string t943] fun w23 =>
 ∃ r8 : Int, w23.cell? ⟨b, 0, none⟩ = some (.int .i64 r8) ∧ ∃ r9 : Int, w23.cell? ⟨b, 1, none⟩ = some (.int .i64 r9) ∧ ∃ r10 : Int, w23.cell? ⟨b, 2, none⟩ = some (.int .i64 r10) ∧ ∃ r11 : ByteArray, w23.cell? ⟨b, 3, none⟩ = some (.string r11) ∧ 
 R (.tuple #[.agg #[.int .i64 r8, .int .i64 r9, .int .i64 r10, .string r11], .int .i64 0]) w23

def purlinref21_Parse.K2 (R : Value → World → Prop) (b : Nat) (b1 : Nat) (b2 : Nat) (ok2 : Bool) (w19 : World) : Prop :=
 br (!ok2) (
 ∃ t93 : Int, w19.cell? ⟨b1, 0, none⟩ = some (.int .i64 t93) ∧ ∃ t931 : Int, w19.cell? ⟨b1, 1, none⟩ = some (.int .i64 t931) ∧ ∃ t932 : Int, w19.cell? ⟨b1, 2, none⟩ = some (.int .i64 t932) ∧ ∃ t933 : ByteArray, w19.cell? ⟨b1, 3, none⟩ = some (.string t933) ∧ 
 storeC w19 b 0 [.int .i64 t93, .int .i64 t931, .int .i64 t932, .string t933] fun w20 =>
 purlinref21_Parse.K0 R b w20) (
 purlinref21_Parse.K1 R b b2 w19)

def purlinref21_Parse.K3 (R : Value → World → Prop) (b : Nat) (b1 : Nat) (t35A : Option Addr) (t35N : Nat) (b2 : Nat) (ok1 : Bool) (w17 : World) : Prop :=
 br ok1 (
 0 ≤ (2 : Int) ∧ 2 < ((t35N : Nat) : Int) ∧ okP t35A (
 ∃ t88 : ByteArray, w17.cell? ⟨(pb t35A), po t35A + 2, none⟩ = some (.string t88) ∧
 0 ≤ (1 : Int) ∧ (1 : Int) ≤ (t88.size : Int) ∧
 storeC w17 b2 3 [.string (t88.extract (1 : Int).toNat t88.size)] fun w18 =>
 purlinref21_Parse.K2 R b b1 b2 ok1 w18)) (
 purlinref21_Parse.K2 R b b1 b2 ok1 w17)

def purlinref21_Parse.K4 (R : Value → World → Prop) (b : Nat) (b1 : Nat) (w24 : World) : Prop :=
 ∃ t934 : Int, w24.cell? ⟨b1, 0, none⟩ = some (.int .i64 t934) ∧ ∃ t935 : Int, w24.cell? ⟨b1, 1, none⟩ = some (.int .i64 t935) ∧ ∃ t936 : Int, w24.cell? ⟨b1, 2, none⟩ = some (.int .i64 t936) ∧ ∃ t937 : ByteArray, w24.cell? ⟨b1, 3, none⟩ = some (.string t937) ∧ 
 storeC w24 b 0 [.int .i64 t934, .int .i64 t935, .int .i64 t936, .string t937] fun w25 =>
 purlinref21_Parse.K0 R b w25

def purlinref21_Parse.K5 (R : Value → World → Prop) (b : Nat) (b1 : Nat) (t231 : Int) (t35A : Option Addr) (t35N : Nat) (b2 : Nat) (ok : Bool) (w16 : World) : Prop :=
 br (t231 == 3) (
 br ok (
 0 ≤ (2 : Int) ∧ 2 < ((t35N : Nat) : Int) ∧ okP t35A (
 ∃ t76 : ByteArray, w16.cell? ⟨(pb t35A), po t35A + 2, none⟩ = some (.string t76) ∧
 br (!(t76.toList == (⟨#[]⟩ : ByteArray).toList)) (
 0 ≤ (2 : Int) ∧ 2 < ((t35N : Nat) : Int) ∧ okP t35A (
 ∃ t81 : ByteArray, w16.cell? ⟨(pb t35A), po t35A + 2, none⟩ = some (.string t81) ∧
 0 ≤ (0 : Int) ∧ 0 < (t81.size : Int) ∧
 purlinref21_Parse.K3 R b b1 t35A t35N b2 ((((t81.data.getD (0 : Int).toNat 0).toNat : Nat) : Int) == 61) w16)) (
 purlinref21_Parse.K4 R b b1 w16))) (
 purlinref21_Parse.K2 R b b1 b2 ok w16)) (
 purlinref21_Parse.K2 R b b1 b2 ok w16)

def purlinref21_Parse.K6 (s : ByteArray) (R : Value → World → Prop) (b : Nat) (b1 : Nat) (op : Int) (t231 : Int) (most : Int) (w7 : World) : Prop :=
 Calls Tryd.prog 28 #[.string s, .int .i64 most] w7 (fun e w8 => ∃ t35A : Option Addr, ∃ t35N : Nat, ∃ t35C : Nat, e = .returned (.slice t35A t35N t35C) ∧
 newBlk w8 (.cells #[.int .i64 0, .int .i64 0, .int .i64 0, .string (⟨#[]⟩ : ByteArray)] 30 (0, 0)) fun b2 w9 =>
 storeC w9 b2 0 [.int .i64 op, .int .i64 0, .int .i64 0, .string (⟨#[]⟩ : ByteArray)] fun w10 =>
 0 ≤ (t231 : Int) ∧ t231 < (4 : Int) ∧ ∃ t40 : Int, (#[.int .i64 1, .int .i64 2, .int .i64 3, .int .i64 3] : Array Value)[t231.toNat]? = some (.int .i64 t40) ∧
 br (((t35N : Nat) : Int) != t40) (
 ∃ t45 : Int, w10.cell? ⟨b1, 0, none⟩ = some (.int .i64 t45) ∧ ∃ t451 : Int, w10.cell? ⟨b1, 1, none⟩ = some (.int .i64 t451) ∧ ∃ t452 : Int, w10.cell? ⟨b1, 2, none⟩ = some (.int .i64 t452) ∧ ∃ t453 : ByteArray, w10.cell? ⟨b1, 3, none⟩ = some (.string t453) ∧ 
 storeC w10 b 0 [.int .i64 t45, .int .i64 t451, .int .i64 t452, .string t453] fun w11 =>
 ∃ r : Int, w11.cell? ⟨b, 0, none⟩ = some (.int .i64 r) ∧ ∃ r1 : Int, w11.cell? ⟨b, 1, none⟩ = some (.int .i64 r1) ∧ ∃ r2 : Int, w11.cell? ⟨b, 2, none⟩ = some (.int .i64 r2) ∧ ∃ r3 : ByteArray, w11.cell? ⟨b, 3, none⟩ = some (.string r3) ∧ 
 R (.tuple #[.agg #[.int .i64 r, .int .i64 r1, .int .i64 r2, .string r3], .int .i64 223]) w11) (
 br (decide (t231 > 0)) (
 0 ≤ (1 : Int) ∧ 1 < ((t35N : Nat) : Int) ∧ okP t35A (
 ∃ t51 : ByteArray, w10.cell? ⟨(pb t35A), po t35A + 1, none⟩ = some (.string t51) ∧
 Calls Tryd.prog 29 #[.string t51] w10 (fun e w12 => ∃ t52 : Int, ∃ t521 : Bool, e = .returned (.tuple #[.int .i64 t52, .bool t521]) ∧
 storeC w12 b2 1 [.int .i64 t52] fun w13 =>
 br (t231 == 2) (
 br t521 (
 0 ≤ (2 : Int) ∧ 2 < ((t35N : Nat) : Int) ∧ okP t35A (
 ∃ t64 : ByteArray, w13.cell? ⟨(pb t35A), po t35A + 2, none⟩ = some (.string t64) ∧
 Calls Tryd.prog 29 #[.string t64] w13 (fun e w14 => ∃ t65 : Int, ∃ t651 : Bool, e = .returned (.tuple #[.int .i64 t65, .bool t651]) ∧
 storeC w14 b2 2 [.int .i64 t65] fun w15 =>
 purlinref21_Parse.K5 R b b1 t231 t35A t35N b2 t651 w15))) (
 purlinref21_Parse.K5 R b b1 t231 t35A t35N b2 t521 w13)) (
 purlinref21_Parse.K5 R b b1 t231 t35A t35N b2 t521 w13)))) (
 br (t231 == 2) (
 0 ≤ (2 : Int) ∧ 2 < ((t35N : Nat) : Int) ∧ okP t35A (
 ∃ t641 : ByteArray, w10.cell? ⟨(pb t35A), po t35A + 2, none⟩ = some (.string t641) ∧
 Calls Tryd.prog 29 #[.string t641] w10 (fun e w26 => ∃ t652 : Int, ∃ t653 : Bool, e = .returned (.tuple #[.int .i64 t652, .bool t653]) ∧
 storeC w26 b2 2 [.int .i64 t652] fun w27 =>
 purlinref21_Parse.K5 R b b1 t231 t35A t35N b2 t653 w27))) (
 br (t231 == 3) (
 0 ≤ (2 : Int) ∧ 2 < ((t35N : Nat) : Int) ∧ okP t35A (
 ∃ t761 : ByteArray, w10.cell? ⟨(pb t35A), po t35A + 2, none⟩ = some (.string t761) ∧
 br (!(t761.toList == (⟨#[]⟩ : ByteArray).toList)) (
 0 ≤ (2 : Int) ∧ 2 < ((t35N : Nat) : Int) ∧ okP t35A (
 ∃ t811 : ByteArray, w10.cell? ⟨(pb t35A), po t35A + 2, none⟩ = some (.string t811) ∧
 0 ≤ (0 : Int) ∧ 0 < (t811.size : Int) ∧
 purlinref21_Parse.K3 R b b1 t35A t35N b2 ((((t811.data.getD (0 : Int).toNat 0).toNat : Nat) : Int) == 61) w10)) (
 purlinref21_Parse.K4 R b b1 w10))) (
 purlinref21_Parse.K1 R b b2 w10)))))

def purlinref21_Parse.L0 (s : ByteArray) (R : Value → World → Prop) (b : Nat) (b1 : Nat) (t16A : Option Addr) (t16N : Nat) (op : Int) (w5 : World) (Nx0 : Int → World → Prop) : Prop :=
 br (decide (op ≤ 30)) (
 Calls Tryd.prog 9 #[.int .i64 op] w5 (fun e w6 => ∃ t23 : ByteArray, ∃ t231 : Int, e = .returned (.tuple #[.string t23, .int .i64 t231]) ∧
 0 ≤ (0 : Int) ∧ 0 < ((t16N : Nat) : Int) ∧ okP t16A (
 ∃ t29 : ByteArray, w6.cell? ⟨(pb t16A), po t16A, none⟩ = some (.string t29) ∧
 br (!(t23.toList == t29.toList)) (
 Nx0 (IntKind.wrap .i64 (op + 1)) w6) (
 br (t231 == 3) (
 purlinref21_Parse.K6 s R b b1 op t231 3 w6) (
 purlinref21_Parse.K6 s R b b1 op t231 4 w6))))) (
 ∃ t95 : Int, w5.cell? ⟨b1, 0, none⟩ = some (.int .i64 t95) ∧ ∃ t951 : Int, w5.cell? ⟨b1, 1, none⟩ = some (.int .i64 t951) ∧ ∃ t952 : Int, w5.cell? ⟨b1, 2, none⟩ = some (.int .i64 t952) ∧ ∃ t953 : ByteArray, w5.cell? ⟨b1, 3, none⟩ = some (.string t953) ∧ 
 storeC w5 b 0 [.int .i64 t95, .int .i64 t951, .int .i64 t952, .string t953] fun w28 =>
 ∃ r12 : Int, w28.cell? ⟨b, 0, none⟩ = some (.int .i64 r12) ∧ ∃ r13 : Int, w28.cell? ⟨b, 1, none⟩ = some (.int .i64 r13) ∧ ∃ r14 : Int, w28.cell? ⟨b, 2, none⟩ = some (.int .i64 r14) ∧ ∃ r15 : ByteArray, w28.cell? ⟨b, 3, none⟩ = some (.string r15) ∧ 
 R (.tuple #[.agg #[.int .i64 r12, .int .i64 r13, .int .i64 r14, .string r15], .int .i64 223]) w28)

def purlinref21_Parse.F (s : ByteArray) (w : World) (R : Value → World → Prop) : Prop :=
 newBlk w (.cells #[.int .i64 0, .int .i64 0, .int .i64 0, .string (⟨#[]⟩ : ByteArray)] 30 (0, 0)) fun b w1 =>
 newBlk w1 (.cells #[.int .i64 0, .int .i64 0, .int .i64 0, .string (⟨#[]⟩ : ByteArray)] 30 (0, 0)) fun b1 w2 =>
 storeC w2 b1 0 [.int .i64 0, .int .i64 0, .int .i64 0, .string (⟨#[]⟩ : ByteArray)] fun w3 =>
 Calls Tryd.prog 28 #[.string s, .int .i64 2] w3 (fun e w4 => ∃ t16A : Option Addr, ∃ t16N : Nat, ∃ t16C : Nat, e = .returned (.slice t16A t16N t16C) ∧
 ∃ I : Nat → Int → World → Prop, (∃ n, I n 1 w4) ∧ ∀ (n9 : Nat) (dead : Nat → Value) (w5 : World) (op : Int), I n9 op w5 →
 purlinref21_Parse.L0 s R b b1 t16A t16N op w5 (fun x0 w9 => ∃ m, m < n9 ∧ I m x0 w9))

theorem purlinref21_Parse.vc (s : ByteArray) (w : World) (R : Value → World → Prop) : fnVC Tryd.prog purlinref21_Parse.A Tryd.f17 [.string s] w R = purlinref21_Parse.F s w R := by kernel_rfl
theorem purlinref21_Parse.calls (s : ByteArray) (w : World) (R : Value → World → Prop) (h : purlinref21_Parse.F s w R) : Calls Tryd.prog 17 #[.string s] w (Ret R) :=
  calls_of_vc mixed Tryd.func17 (Eq.mpr (purlinref21_Parse.vc s w R) h)

end Go.Proofs.YtmihgfhpmnomoaaDoor
