/- Printed by vcgen.py: of each function of this text its weakest precondition as a formula, and that it is one. Conditions: none. -/
import Derived.Test.YtgkbokhmmoemfaaVcCode
import Derived.Test.YtgkbokhmmoemfaaVcMem
import Derived.Test.YtgkbokhmmoemfaaChecked
namespace Go.Proofs.Ytgkbokhmmoemfaa
open Go.Vc
set_option linter.unusedVariables false
set_option maxRecDepth 100000

/-! ### purlin/purlinlaw14.LinePlays: function 9 -/
def purlinlaw14_LinePlays.A : Ann where
  sched := fun i => match i with
    | 8 => some ((some 0), .still 0 true 1086 <| .still 2 true 1035 <| .still 3 true 1031 <| .still 4 true 1039 <| .still 1 true 1085 <| .still 5 true 1055 <| .alt 6 (.still 7 true 1151 <| .still 8 true 1791 <| .still 9 true 3583 <| .eff 10 <| .eff 11 <| .still 12 false 4095 <| .done) <| .eff 10 <| .eff 6 <| .still 7 false 1151 <| .still 8 false 1791 <| .still 9 true 3583 <| .eff 11 <| .still 12 false 4095 <| .done)
    | 12 => some ((some 0), .still 0 false 0 <| .still 1 false 1 <| .still 2 false 3 <| .still 3 false 39 <| .still 5 true 31 <| .eff 4 <| .eff 6 <| .still 7 false 127 <| .still 8 false 255 <| .still 9 false 511 <| .still 10 false 15359 <| .still 11 false 2047 <| .still 12 false 4095 <| .still 13 false 8191 <| .still 14 false 16383 <| .still 15 false 32767 <| .still 16 false 65535 <| .still 17 false 131071 <| .still 18 false 262143 <| .still 19 false 7864319 <| .still 20 false 1048575 <| .still 21 false 2097151 <| .still 22 false 4194303 <| .still 23 false 8388607 <| .still 24 false 16777215 <| .still 25 false 33554431 <| .still 26 false 67108863 <| .still 27 false 134217727 <| .still 28 false 268435455 <| .still 29 false 536870911 <| .still 30 false 1073741823 <| .still 31 false 2147483647 <| .still 32 false 4294967295 <| .still 33 false 8589934591 <| .still 34 false 17179869183 <| .still 35 false 446676598783 <| .still 37 true 137438953471 <| .still 38 true 274877906943 <| .eff 36 <| .still 39 false 549755813887 <| .still 40 false 1099511627775 <| .done)
    | _ => none
  loop := fun i => match i with
    | 6 => some [(2, none), (5, some (.one (.int .i64))), (6, none), (7, none), (8, none), (9, none), (10, none), (19, none), (20, none), (21, none), (22, none), (23, none), (24, none), (25, none), (26, none), (27, none), (28, none), (29, none), (30, none), (31, none), (32, none), (33, none), (34, none), (35, none), (36, none), (37, none), (38, none), (39, none), (40, none), (41, none), (42, none), (43, none), (44, none), (45, none), (46, none), (47, none), (48, none), (49, none), (50, none), (51, none), (52, none), (53, none), (54, none), (55, none), (56, none), (57, none), (58, none), (59, none), (60, none), (61, none), (62, none), (63, none), (64, none), (65, none), (66, none), (67, none), (68, none), (69, none), (70, none), (71, none), (72, none), (73, none), (74, none), (75, none), (76, none), (77, none), (78, none), (79, none), (80, none), (81, none), (82, none), (83, none), (84, none), (85, none), (86, none), (87, none)]
    | _ => none

def purlinlaw14_LinePlays.K0 (R : Value → World → Prop) (t11P : Option Addr) (b : Nat) (i : Int) (Nx0 : Int → World → Prop) (nB : Nat) (ok : Bool) (w10 : World) : Prop :=
 ∃ t39A : Option Addr, ∃ t39N : Nat, ∃ t39C : Nat, w10.cell? ⟨nB, 0, none⟩ = some (.slice t39A t39N t39C) ∧ ∃ t39 : Int, w10.cell? ⟨nB, 1, none⟩ = some (.int .i64 t39) ∧ 
 storeC w10 b 0 [.slice t39A t39N t39C, .int .i64 t39] fun w11 =>
 ∃ t40A : Option Addr, ∃ t40N : Nat, ∃ t40C : Nat, w11.cell? ⟨b, 0, none⟩ = some (.slice t40A t40N t40C) ∧ ∃ t40 : Int, w11.cell? ⟨b, 1, none⟩ = some (.int .i64 t40) ∧ 
 Calls Try.prog 32 #[.agg #[.slice t40A t40N t40C, .int .i64 t40]] w11 (fun e w12 => ∃ t41A : Option Addr, ∃ t41N : Nat, ∃ t41C : Nat, e = .returned (.slice t41A t41N t41C) ∧
 Calls Try.prog 33 #[.pointer t11P] w12 (fun e w13 => ∃ t44 : Int, ∃ t441 : Bool, e = .returned (.tuple #[.int .i64 t44, .bool t441]) ∧
 ∃ S : World → Prop, S w13.drew ∧ drawC w13 fun w14 =>
 br (!ok) (
 R (.bool false) w14) (
 Calls Try.prog 29 #[.pointer t11P] w14 (fun e w17 => ∃ t51A : Option Addr, ∃ t51N : Nat, ∃ t51C : Nat, e = .returned (.slice t51A t51N t51C) ∧
 S w17 ∧ Calls Try.prog 34 #[.slice t51A t51N t51C, .slice t41A t41N t41C] w17 (fun e w18 => ∃ t53 : Bool, e = .returned (.bool t53) ∧
 S w18 ∧ br (!t53) (
 R (.bool false) w18) (
 br (!(t441 == (decide (((t41N : Nat) : Int) > 0)))) (
 R (.bool false) w18) (
 br t441 (
 0 ≤ (0 : Int) ∧ 0 < ((t41N : Nat) : Int) ∧ okP t41A (
 ∃ t69 : Int, w18.cell? ⟨(pb t41A), po t41A, none⟩ = some (.int .i64 t69) ∧
 br (t44 != t69) (
 R (.bool false) w18) (
 br (!t441) (
 br (t44 != 0) (
 R (.bool false) w18) (
 ∃ t85 : Int, (∀ w9 : World, S w9 → w9.cell? ⟨b, 1, none⟩ = some (.int .i64 t85)) ∧
 Calls Try.prog 35 #[.pointer t11P] w18 (fun e w19 => ∃ t83 : Int, e = .returned (.int .i64 t83) ∧
 S w19 ∧ br (t83 != t85) (
 R (.bool false) w19) (
 Nx0 (IntKind.wrap .i64 (i + 1)) w19)))) (
 ∃ t851 : Int, (∀ w9 : World, S w9 → w9.cell? ⟨b, 1, none⟩ = some (.int .i64 t851)) ∧
 Calls Try.prog 35 #[.pointer t11P] w18 (fun e w21 => ∃ t831 : Int, e = .returned (.int .i64 t831) ∧
 S w21 ∧ br (t831 != t851) (
 R (.bool false) w21) (
 Nx0 (IntKind.wrap .i64 (i + 1)) w21)))))) (
 br (!t441) (
 br (t44 != 0) (
 R (.bool false) w18) (
 ∃ t852 : Int, (∀ w9 : World, S w9 → w9.cell? ⟨b, 1, none⟩ = some (.int .i64 t852)) ∧
 Calls Try.prog 35 #[.pointer t11P] w18 (fun e w22 => ∃ t832 : Int, e = .returned (.int .i64 t832) ∧
 S w22 ∧ br (t832 != t852) (
 R (.bool false) w22) (
 Nx0 (IntKind.wrap .i64 (i + 1)) w22)))) (
 ∃ t853 : Int, (∀ w9 : World, S w9 → w9.cell? ⟨b, 1, none⟩ = some (.int .i64 t853)) ∧
 Calls Try.prog 35 #[.pointer t11P] w18 (fun e w23 => ∃ t833 : Int, e = .returned (.int .i64 t833) ∧
 S w23 ∧ br (t833 != t853) (
 R (.bool false) w23) (
 Nx0 (IntKind.wrap .i64 (i + 1)) w23)))))))))))

def purlinlaw14_LinePlays.L0 (callsA : Option Addr) (callsN : Nat) (R : Value → World → Prop) (t11P : Option Addr) (b : Nat) (i : Int) (w5 : World) (Nx0 : Int → World → Prop) : Prop :=
 br (decide (i < ((callsN : Nat) : Int))) (
 br (decide (i < 60)) (
 ∃ S : World → Prop, S w5.drew ∧ drawC w5 fun w6 =>
 0 ≤ (i : Int) ∧ i < ((callsN : Nat) : Int) ∧ okP callsA (
 ∃ t31A : Option Addr, ∃ t31N : Nat, ∃ t31C : Nat, (∀ w9 : World, S w9 → w9.cell? ⟨b, 0, none⟩ = some (.slice t31A t31N t31C)) ∧ ∃ t31 : Int, (∀ w9 : World, S w9 → w9.cell? ⟨b, 1, none⟩ = some (.int .i64 t31)) ∧ 
 ∃ t35 : Int, (∀ w9 : World, S w9 → w9.cell? ⟨(pb callsA), po callsA + i.toNat * 4, none⟩ = some (.int .i64 t35)) ∧ ∃ t351 : Int, (∀ w9 : World, S w9 → w9.cell? ⟨(pb callsA), po callsA + i.toNat * 4 + 1, none⟩ = some (.int .i64 t351)) ∧ ∃ t352 : Int, (∀ w9 : World, S w9 → w9.cell? ⟨(pb callsA), po callsA + i.toNat * 4 + 2, none⟩ = some (.int .i64 t352)) ∧ ∃ t353 : Int, (∀ w9 : World, S w9 → w9.cell? ⟨(pb callsA), po callsA + i.toNat * 4 + 3, none⟩ = some (.int .i64 t353)) ∧ 
 (Calls Try.prog 31 #[.pointer t11P, .agg #[.slice t31A t31N t31C, .int .i64 t31], .agg #[.int .i64 t35, .int .i64 t351, .int .i64 t352, .int .i64 t353]] w6 (fun e w7 => ∃ t36A : Option Addr, ∃ t36N : Nat, ∃ t36C : Nat, ∃ t36 : Int, ∃ t361 : Bool, e = .returned (.tuple #[.agg #[.slice t36A t36N t36C, .int .i64 t36], .bool t361]) ∧
 S w7 ∧ newBlk w7 (.cells #[.slice none 0 0, .int .i64 0] 65 (0, 0)) fun b1 w8 =>
 S w8 ∧ storeC w8 b1 0 [.slice t36A t36N t36C, .int .i64 t36] fun w9 =>
 S w9 ∧ purlinlaw14_LinePlays.K0 R t11P b i Nx0 b1 t361 w9)) ∧
 (newBlk w6 (.cells #[.slice none 0 0, .int .i64 0] 65 (0, 0)) fun b2 w24 =>
 S w24 ∧ Calls Try.prog 31 #[.pointer t11P, .agg #[.slice t31A t31N t31C, .int .i64 t31], .agg #[.int .i64 t35, .int .i64 t351, .int .i64 t352, .int .i64 t353]] w24 (fun e w25 => ∃ t36A1 : Option Addr, ∃ t36N1 : Nat, ∃ t36C1 : Nat, ∃ t362 : Int, ∃ t363 : Bool, e = .returned (.tuple #[.agg #[.slice t36A1 t36N1 t36C1, .int .i64 t362], .bool t363]) ∧
 S w25 ∧ storeC w25 b2 0 [.slice t36A1 t36N1 t36C1, .int .i64 t362] fun w26 =>
 S w26 ∧ purlinlaw14_LinePlays.K0 R t11P b i Nx0 b2 t363 w26)))) (
 R (.bool true) w5)) (
 R (.bool true) w5)

def purlinlaw14_LinePlays.F (callsA : Option Addr) (callsN : Nat) (callsC : Nat) (w : World) (R : Value → World → Prop) : Prop :=
 Calls Try.prog 26 #[] w (fun e w1 => ∃ t11P : Option Addr, e = .returned (.pointer t11P) ∧
 newBlk w1 (.cells #[.slice none 0 0, .int .i64 0] 65 (0, 0)) fun b w2 =>
 storeC w2 b 0 [.slice none 0 0, .int .i64 0] fun w3 =>
 Calls Try.prog 27 #[] w3 (fun e w4 => ∃ t13 : Bool, e = .returned (.bool t13) ∧
 br (!t13) (
 R (.bool false) w4) (
 br ((t11P : Option Addr).isNone) (
 R (.bool false) w4) (
 ∃ I : Nat → Int → World → Prop, (∃ n, I n 0 w4) ∧ ∀ (n9 : Nat) (dead : Nat → Value) (w5 : World) (i : Int), I n9 i w5 →
 purlinlaw14_LinePlays.L0 callsA callsN R t11P b i w5 (fun x0 w9 => ∃ m, m < n9 ∧ I m x0 w9)))))

theorem purlinlaw14_LinePlays.vc (callsA : Option Addr) (callsN : Nat) (callsC : Nat) (w : World) (R : Value → World → Prop) : fnVC Try.prog purlinlaw14_LinePlays.A Try.f9 [.slice callsA callsN callsC] w R = purlinlaw14_LinePlays.F callsA callsN callsC w R := by kernel_rfl
theorem purlinlaw14_LinePlays.calls (callsA : Option Addr) (callsN : Nat) (callsC : Nat) (w : World) (R : Value → World → Prop) (h : purlinlaw14_LinePlays.F callsA callsN callsC w R) : Calls Try.prog 9 #[.slice callsA callsN callsC] w (Ret R) :=
  calls_of_vc mixed Try.func9 (Eq.mpr (purlinlaw14_LinePlays.vc callsA callsN callsC w R) h)

/-! ### purlin/purlinlaw14.LineOrder: function 7 -/
def purlinlaw14_LineOrder.A : Ann where
  sched := fun i => match i with
    | 8 => some (none, .still 0 false 65534 <| .still 1 false 65477 <| .still 2 false 65475 <| .still 3 false 65479 <| .still 4 false 65487 <| .still 5 false 65503 <| .still 6 false 63679 <| .still 7 false 63615 <| .still 8 false 63743 <| .still 9 false 63999 <| .still 10 false 64511 <| .still 11 false 6143 <| .still 12 false 4095 <| .still 13 false 8191 <| .still 14 false 16383 <| .still 15 false 32767 <| .eff 16 <| .still 17 false 131071 <| .done)
    | 20 => some (none, .still 0 false 482 <| .still 1 false 481 <| .still 2 false 483 <| .still 3 false 487 <| .still 4 false 495 <| .still 5 false 95 <| .still 6 false 63 <| .still 7 false 127 <| .still 8 false 255 <| .still 9 false 511 <| .done)
    | 25 => some ((some 262144), .still 0 true 130878 <| .still 1 true 130829 <| .still 2 true 130819 <| .still 3 true 130823 <| .still 4 true 130831 <| .still 8 true 237311 <| .still 9 true 230911 <| .still 10 true 230399 <| .still 11 true 231423 <| .still 5 true 130847 <| .still 6 true 130879 <| .still 7 true 130943 <| .still 12 true 233471 <| .still 13 true 237567 <| .still 14 true 245759 <| .alt 15 (.eff 16 <| .eff 17 <| .eff 18 <| .done) <| .eff 16 <| .eff 15 <| .eff 17 <| .eff 18 <| .done)
    | 26 => some (none, .still 0 false 12 <| .still 1 false 13 <| .still 2 false 3 <| .still 3 false 7 <| .still 4 false 15 <| .still 5 false 31 <| .still 6 false 831 <| .still 7 false 895 <| .still 8 false 255 <| .still 9 false 511 <| .still 10 false 1023 <| .still 11 false 2047 <| .still 12 false 1994751 <| .still 13 false 1974271 <| .still 14 false 1982463 <| .still 15 false 1998847 <| .still 16 false 2031615 <| .still 17 false 393215 <| .still 18 false 262143 <| .still 19 false 524287 <| .still 20 false 1048575 <| .still 21 false 2097151 <| .still 22 false 4194303 <| .still 23 false 8388607 <| .done)
    | _ => none
  loop := fun i => match i with
    | 6 => some [(4, some (.one (.slice))), (5, some (.one (.int .i64))), (20, none), (21, none), (22, none), (23, none), (24, none), (25, none), (26, none), (27, none), (28, none), (29, none), (30, none), (31, none), (32, none), (33, none), (34, none), (35, none), (36, none), (37, none), (38, none), (39, none), (40, none), (41, none), (42, none), (43, none), (44, none), (45, none), (46, none), (47, none), (48, none), (49, none), (50, none), (51, none), (52, none), (53, none), (54, none)]
    | 15 => some [(2, none), (7, some (.one (.slice))), (8, some (.one (.int .i64))), (9, none), (10, none), (11, none), (63, none), (64, none), (65, none), (66, none), (67, none), (68, none), (69, none), (70, none), (71, none), (72, none), (73, none), (74, none), (75, none), (76, none), (77, none), (78, none), (79, none), (80, none), (81, none), (82, none), (83, none), (84, none), (85, none), (86, none), (87, none), (88, none), (89, none), (90, none), (91, none), (92, none), (93, none), (94, none), (95, none), (96, none), (97, none), (98, none), (99, none), (100, none), (101, none), (102, none), (103, none), (104, none), (105, none), (106, none), (107, none), (108, none), (109, none), (110, none), (111, none), (112, none), (113, none), (114, none), (115, none), (116, none), (117, none), (118, none), (119, none), (120, none), (121, none), (122, none), (123, none), (124, none), (125, none), (126, none), (127, none), (128, none), (129, none), (130, none), (131, none), (132, none), (133, none), (134, none)]
    | 18 => some [(7, some (.one (.slice))), (9, some (.one (.int .i64))), (69, none), (70, none), (71, none), (72, none), (73, none), (74, none), (75, none), (76, none), (77, none), (78, none), (79, none), (80, none), (81, none), (82, none), (83, none), (84, none), (85, none), (86, none), (87, none), (88, none)]
    | _ => none

def purlinlaw14_LineOrder.K0 (R : Value → World → Prop) (i1 : Int) (Nx1 : Option Addr → Nat → Nat → Int → World → Prop) (atA1 : Option Addr) (atN1 : Nat) (atC1 : Nat) (aB : Nat) (bB : Nat) (w23 : World) : Prop :=
 drawC w23 fun w24 =>
 ∃ t112 : Int, w24.cell? ⟨aB, 2, none⟩ = some (.int .i64 t112) ∧
 ∃ t114 : Int, w24.cell? ⟨bB, 2, none⟩ = some (.int .i64 t114) ∧
 br (decide (t112 < t114)) (
 R (.bool false) w24) (
 ∃ t118 : Int, w24.cell? ⟨aB, 2, none⟩ = some (.int .i64 t118) ∧
 ∃ t120 : Int, w24.cell? ⟨bB, 2, none⟩ = some (.int .i64 t120) ∧
 br (t118 == t120) (
 0 ≤ (IntKind.wrap .i64 (i1 - 1) : Int) ∧ IntKind.wrap .i64 (i1 - 1) < ((atN1 : Nat) : Int) ∧ okP atA1 (
 ∃ t127 : Int, w24.cell? ⟨(pb atA1), po atA1 + (IntKind.wrap .i64 (i1 - 1)).toNat * 1, none⟩ = some (.int .i64 t127) ∧
 0 ≤ (i1 : Int) ∧ i1 < ((atN1 : Nat) : Int) ∧ okP atA1 (
 ∃ t131 : Int, w24.cell? ⟨(pb atA1), po atA1 + i1.toNat * 1, none⟩ = some (.int .i64 t131) ∧
 br (decide (t127 ≥ t131)) (
 R (.bool false) w24) (
 Nx1 atA1 atN1 atC1 (IntKind.wrap .i64 (i1 + 1)) w24)))) (
 Nx1 atA1 atN1 atC1 (IntKind.wrap .i64 (i1 + 1)) w24))

def purlinlaw14_LineOrder.L2 (R : Value → World → Prop) (cameA : Option Addr) (cameN : Nat) (t56A : Option Addr) (t56N : Nat) (i1 : Int) (Nx1 : Option Addr → Nat → Nat → Int → World → Prop) (atA1 : Option Addr) (atN1 : Nat) (atC1 : Nat) (k : Int) (w13 : World) (Nx2 : Option Addr → Nat → Nat → Int → World → Prop) : Prop :=
 br (decide (k < ((cameN : Nat) : Int))) (
 drawC w13 fun w14 =>
 0 ≤ (k : Int) ∧ k < ((cameN : Nat) : Int) ∧ okP cameA (
 ∃ t79 : Int, w14.cell? ⟨(pb cameA), po cameA + k.toNat * 4 + 1, none⟩ = some (.int .i64 t79) ∧
 0 ≤ (i1 : Int) ∧ i1 < ((t56N : Nat) : Int) ∧ okP t56A (
 ∃ t83 : Int, w14.cell? ⟨(pb t56A), po t56A + i1.toNat * 1, none⟩ = some (.int .i64 t83) ∧
 br (t79 == t83) (
 newBlk w14 (.cells #[.int .i64 k] 3 (0, 0)) fun b3 w15 =>
 ∃ t88A : Option Addr, ∃ t88N : Nat, ∃ t88C : Nat, ∃ w16 : World, (Builtin.append_ #[56, 56] 56 #[.slice atA1 atN1 atC1, .slice (some ⟨b3, 0, none⟩) 1 1]).run Try.prog w15 = .ok (.slice t88A t88N t88C) w16 ∧
 Nx2 t88A t88N t88C (IntKind.wrap .i64 (k + 1)) w16) (
 Nx2 atA1 atN1 atC1 (IntKind.wrap .i64 (k + 1)) w14)))) (
 br (((atN1 : Nat) : Int) != IntKind.wrap .i64 (i1 + 1)) (
 R (.bool false) w13) (
 br (decide (i1 > 0)) (
 ∃ S : World → Prop, S w13.drew ∧ drawC w13 fun w18 =>
 0 ≤ (IntKind.wrap .i64 (i1 - 1) : Int) ∧ IntKind.wrap .i64 (i1 - 1) < ((atN1 : Nat) : Int) ∧ okP atA1 (
 0 ≤ (i1 : Int) ∧ i1 < ((atN1 : Nat) : Int) ∧ okP atA1 (
 ∃ t101 : Int, (∀ w9 : World, S w9 → w9.cell? ⟨(pb atA1), po atA1 + (IntKind.wrap .i64 (i1 - 1)).toNat * 1, none⟩ = some (.int .i64 t101)) ∧
 0 ≤ (t101 : Int) ∧ t101 < ((cameN : Nat) : Int) ∧ okP cameA (
 ∃ t103 : Int, (∀ w9 : World, S w9 → w9.cell? ⟨(pb cameA), po cameA + t101.toNat * 4, none⟩ = some (.int .i64 t103)) ∧ ∃ t1031 : Int, (∀ w9 : World, S w9 → w9.cell? ⟨(pb cameA), po cameA + t101.toNat * 4 + 1, none⟩ = some (.int .i64 t1031)) ∧ ∃ t1032 : Int, (∀ w9 : World, S w9 → w9.cell? ⟨(pb cameA), po cameA + t101.toNat * 4 + 2, none⟩ = some (.int .i64 t1032)) ∧ ∃ t1033 : Int, (∀ w9 : World, S w9 → w9.cell? ⟨(pb cameA), po cameA + t101.toNat * 4 + 3, none⟩ = some (.int .i64 t1033)) ∧ 
 ∃ t108 : Int, (∀ w9 : World, S w9 → w9.cell? ⟨(pb atA1), po atA1 + i1.toNat * 1, none⟩ = some (.int .i64 t108)) ∧
 0 ≤ (t108 : Int) ∧ t108 < ((cameN : Nat) : Int) ∧ okP cameA (
 ∃ t110 : Int, (∀ w9 : World, S w9 → w9.cell? ⟨(pb cameA), po cameA + t108.toNat * 4, none⟩ = some (.int .i64 t110)) ∧ ∃ t1101 : Int, (∀ w9 : World, S w9 → w9.cell? ⟨(pb cameA), po cameA + t108.toNat * 4 + 1, none⟩ = some (.int .i64 t1101)) ∧ ∃ t1102 : Int, (∀ w9 : World, S w9 → w9.cell? ⟨(pb cameA), po cameA + t108.toNat * 4 + 2, none⟩ = some (.int .i64 t1102)) ∧ ∃ t1103 : Int, (∀ w9 : World, S w9 → w9.cell? ⟨(pb cameA), po cameA + t108.toNat * 4 + 3, none⟩ = some (.int .i64 t1103)) ∧ 
 (newBlk w18 (.cells #[.int .i64 0, .int .i64 0, .int .i64 0, .int .i64 0] 55 (0, 0)) fun b4 w19 =>
 S w19 ∧ newBlk w19 (.cells #[.int .i64 0, .int .i64 0, .int .i64 0, .int .i64 0] 55 (0, 0)) fun b5 w20 =>
 S w20 ∧ storeC w20 b4 0 [.int .i64 t103, .int .i64 t1031, .int .i64 t1032, .int .i64 t1033] fun w21 =>
 S w21 ∧ storeC w21 b5 0 [.int .i64 t110, .int .i64 t1101, .int .i64 t1102, .int .i64 t1103] fun w22 =>
 purlinlaw14_LineOrder.K0 R i1 Nx1 atA1 atN1 atC1 b4 b5 w22) ∧
 (newBlk w18 (.cells #[.int .i64 0, .int .i64 0, .int .i64 0, .int .i64 0] 55 (0, 0)) fun b6 w26 =>
 S w26 ∧ newBlk w26 (.cells #[.int .i64 0, .int .i64 0, .int .i64 0, .int .i64 0] 55 (0, 0)) fun b7 w27 =>
 S w27 ∧ storeC w27 b7 0 [.int .i64 t103, .int .i64 t1031, .int .i64 t1032, .int .i64 t1033] fun w28 =>
 S w28 ∧ storeC w28 b6 0 [.int .i64 t110, .int .i64 t1101, .int .i64 t1102, .int .i64 t1103] fun w29 =>
 purlinlaw14_LineOrder.K0 R i1 Nx1 atA1 atN1 atC1 b7 b6 w29)))))) (
 Nx1 atA1 atN1 atC1 (IntKind.wrap .i64 (i1 + 1)) w13)))

def purlinlaw14_LineOrder.L1 (R : Value → World → Prop) (cameA : Option Addr) (cameN : Nat) (t56A : Option Addr) (t56N : Nat) (dead : Nat → Value) (atA : Option Addr) (atN : Nat) (atC : Nat) (i1 : Int) (w12 : World) (Nx1 : Option Addr → Nat → Nat → Int → World → Prop) : Prop :=
 br (decide (i1 < ((t56N : Nat) : Int))) (
 ∃ I : Nat → Option Addr → Nat → Nat → Int → World → Prop, (∃ n, I n atA atN atC 0 w12) ∧ ∀ (n9 : Nat) (dead : Nat → Value) (w13 : World) (atA1 : Option Addr) (atN1 : Nat) (atC1 : Nat) (k : Int), I n9 atA1 atN1 atC1 k w13 →
 purlinlaw14_LineOrder.L2 R cameA cameN t56A t56N i1 Nx1 atA1 atN1 atC1 k w13 (fun x0 x1 x2 x3 w9 => ∃ m, m < n9 ∧ I m x0 x1 x2 x3 w9)) (
 R (.bool true) w12)

def purlinlaw14_LineOrder.K1 (R : Value → World → Prop) (t12P : Option Addr) (cameA : Option Addr) (cameN : Nat) (w4 : World) : Prop :=
 Calls Try.prog 29 #[.pointer t12P] w4 (fun e w10 => ∃ t56A : Option Addr, ∃ t56N : Nat, ∃ t56C : Nat, e = .returned (.slice t56A t56N t56C) ∧
 br (((t56N : Nat) : Int) != ((cameN : Nat) : Int)) (
 R (.bool false) w10) (
 newBlk w10 (.cells #[] 3 (0, 0)) fun b2 w11 =>
 ∃ I : Nat → Option Addr → Nat → Nat → Int → World → Prop, (∃ n, I n (some ⟨b2, 0, none⟩) 0 0 0 w11) ∧ ∀ (n9 : Nat) (dead : Nat → Value) (w12 : World) (atA : Option Addr) (atN : Nat) (atC : Nat) (i1 : Int), I n9 atA atN atC i1 w12 →
 purlinlaw14_LineOrder.L1 R cameA cameN t56A t56N dead atA atN atC i1 w12 (fun x0 x1 x2 x3 w9 => ∃ m, m < n9 ∧ I m x0 x1 x2 x3 w9)))

def purlinlaw14_LineOrder.L0 (putsA : Option Addr) (putsN : Nat) (R : Value → World → Prop) (t12P : Option Addr) (cameA : Option Addr) (cameN : Nat) (cameC : Nat) (i : Int) (w4 : World) (Nx0 : Option Addr → Nat → Nat → Int → World → Prop) : Prop :=
 br (decide (i < ((putsN : Nat) : Int))) (
 br (decide (i < 60)) (
 drawC w4 fun w5 =>
 0 ≤ (i : Int) ∧ i < ((putsN : Nat) : Int) ∧ okP putsA (
 ∃ t35 : Int, w5.cell? ⟨(pb putsA), po putsA + i.toNat * 4 + 1, none⟩ = some (.int .i64 t35) ∧
 0 ≤ (i : Int) ∧ i < ((putsN : Nat) : Int) ∧ okP putsA (
 ∃ t40 : Int, w5.cell? ⟨(pb putsA), po putsA + i.toNat * 4 + 2, none⟩ = some (.int .i64 t40) ∧
 0 ≤ (i : Int) ∧ i < ((putsN : Nat) : Int) ∧ okP putsA (
 ∃ t45 : Int, w5.cell? ⟨(pb putsA), po putsA + i.toNat * 4 + 3, none⟩ = some (.int .i64 t45) ∧
 Calls Try.prog 28 #[.pointer t12P, .int .i64 t35, .int .i64 t40, .int .i64 t45] w5 (fun e w6 => ∃ t46 : Int, e = .returned (.int .i64 t46) ∧
 br (t46 == 0) (
 0 ≤ (i : Int) ∧ i < ((putsN : Nat) : Int) ∧ okP putsA (
 ∃ t52 : Int, w6.cell? ⟨(pb putsA), po putsA + i.toNat * 4, none⟩ = some (.int .i64 t52) ∧ ∃ t521 : Int, w6.cell? ⟨(pb putsA), po putsA + i.toNat * 4 + 1, none⟩ = some (.int .i64 t521) ∧ ∃ t522 : Int, w6.cell? ⟨(pb putsA), po putsA + i.toNat * 4 + 2, none⟩ = some (.int .i64 t522) ∧ ∃ t523 : Int, w6.cell? ⟨(pb putsA), po putsA + i.toNat * 4 + 3, none⟩ = some (.int .i64 t523) ∧ 
 newBlk w6 (.cells #[.int .i64 t52, .int .i64 t521, .int .i64 t522, .int .i64 t523] 55 (0, 0)) fun b1 w7 =>
 ∃ t54A : Option Addr, ∃ t54N : Nat, ∃ t54C : Nat, ∃ w8 : World, (Builtin.append_ #[50, 50] 50 #[.slice cameA cameN cameC, .slice (some ⟨b1, 0, none⟩) 1 1]).run Try.prog w7 = .ok (.slice t54A t54N t54C) w8 ∧
 Nx0 t54A t54N t54C (IntKind.wrap .i64 (i + 1)) w8)) (
 Nx0 cameA cameN cameC (IntKind.wrap .i64 (i + 1)) w6)))))) (
 purlinlaw14_LineOrder.K1 R t12P cameA cameN w4)) (
 purlinlaw14_LineOrder.K1 R t12P cameA cameN w4)

def purlinlaw14_LineOrder.F (putsA : Option Addr) (putsN : Nat) (putsC : Nat) (w : World) (R : Value → World → Prop) : Prop :=
 Calls Try.prog 26 #[] w (fun e w1 => ∃ t12P : Option Addr, e = .returned (.pointer t12P) ∧
 Calls Try.prog 27 #[] w1 (fun e w2 => ∃ t13 : Bool, e = .returned (.bool t13) ∧
 br (!t13) (
 R (.bool false) w2) (
 br ((t12P : Option Addr).isNone) (
 R (.bool false) w2) (
 newBlk w2 (.cells #[] 55 (0, 0)) fun b w3 =>
 ∃ I : Nat → Option Addr → Nat → Nat → Int → World → Prop, (∃ n, I n (some ⟨b, 0, none⟩) 0 0 0 w3) ∧ ∀ (n9 : Nat) (dead : Nat → Value) (w4 : World) (cameA : Option Addr) (cameN : Nat) (cameC : Nat) (i : Int), I n9 cameA cameN cameC i w4 →
 purlinlaw14_LineOrder.L0 putsA putsN R t12P cameA cameN cameC i w4 (fun x0 x1 x2 x3 w9 => ∃ m, m < n9 ∧ I m x0 x1 x2 x3 w9)))))

theorem purlinlaw14_LineOrder.vc (putsA : Option Addr) (putsN : Nat) (putsC : Nat) (w : World) (R : Value → World → Prop) : fnVC Try.prog purlinlaw14_LineOrder.A Try.f7 [.slice putsA putsN putsC] w R = purlinlaw14_LineOrder.F putsA putsN putsC w R := by kernel_rfl
theorem purlinlaw14_LineOrder.calls (putsA : Option Addr) (putsN : Nat) (putsC : Nat) (w : World) (R : Value → World → Prop) (h : purlinlaw14_LineOrder.F putsA putsN putsC w R) : Calls Try.prog 7 #[.slice putsA putsN putsC] w (Ret R) :=
  calls_of_vc mixed Try.func7 (Eq.mpr (purlinlaw14_LineOrder.vc putsA putsN putsC w R) h)

/-! ### purlin/purlinlaw14.LineExpires: function 8 -/
def purlinlaw14_LineExpires.A : Ann where
  sched := fun i => match i with
    | 9 => some (none, .still 0 false 65534 <| .still 1 false 65477 <| .still 2 false 65475 <| .still 3 false 65479 <| .still 4 false 65487 <| .still 5 false 65503 <| .still 6 false 63679 <| .still 7 false 63615 <| .still 8 false 63743 <| .still 9 false 63999 <| .still 10 false 64511 <| .still 11 false 6143 <| .still 12 false 4095 <| .still 13 false 8191 <| .still 14 false 16383 <| .still 15 false 32767 <| .eff 16 <| .still 17 false 131071 <| .done)
    | 10 => some (none, .still 0 false 994 <| .still 1 false 993 <| .still 2 false 995 <| .still 3 false 999 <| .still 4 false 1007 <| .still 5 false 95 <| .still 6 false 63 <| .still 7 false 127 <| .still 8 false 255 <| .still 9 false 511 <| .still 10 false 1023 <| .eff 11 <| .done)
    | 21 => some (none, .still 0 false 2 <| .still 1 false 1 <| .still 2 false 3 <| .still 3 false 7 <| .still 4 false 15 <| .still 5 false 31 <| .still 6 false 191 <| .still 7 false 127 <| .still 8 false 255 <| .still 9 false 511 <| .still 10 false 1023 <| .still 11 false 2047 <| .still 12 false 4095 <| .still 13 false 24575 <| .still 14 false 16383 <| .still 15 false 32767 <| .still 16 false 65535 <| .still 17 false 131071 <| .still 18 false 262143 <| .still 19 false 524287 <| .still 20 false 1048575 <| .still 21 false 2097151 <| .still 22 false 281018367 <| .still 23 false 276824063 <| .still 24 false 285212671 <| .still 25 false 301989887 <| .still 26 false 335544319 <| .still 27 false 402653183 <| .still 28 false 268435455 <| .still 29 false 536870911 <| .still 30 false 1073741823 <| .still 31 false 2147483647 <| .still 32 false 4294967295 <| .still 33 false 8589934591 <| .still 34 false 17179869183 <| .still 35 false 277317448368127 <| .still 36 false 277145649676287 <| .still 37 false 277214369153023 <| .still 38 false 277351808106495 <| .still 39 false 277626686013439 <| .still 40 false 278176441827327 <| .still 41 false 279275953455103 <| .still 42 false 13194139533311 <| .still 43 false 8796093022207 <| .still 44 false 17592186044415 <| .still 45 false 35184372088831 <| .still 46 false 70368744177663 <| .still 47 false 140737488355327 <| .still 48 false 281474976710655 <| .still 49 false 562949953421311 <| .still 50 false 1125899906842623 <| .done)
    | _ => none
  loop := fun i => match i with
    | 7 => some [(7, some (.one (.int .i64))), (8, some (.one (.int .i64))), (21, none), (22, none), (23, none), (24, none), (25, none), (26, none), (27, none), (28, none), (29, none), (30, none), (31, none), (32, none), (33, none), (34, none), (35, none), (36, none), (37, none), (38, none), (39, none), (40, none), (41, none), (42, none), (43, none), (44, none), (45, none), (46, none), (47, none), (48, none), (49, none), (50, none), (51, none), (52, none), (53, none), (54, none), (55, none), (56, none), (57, none), (58, none), (59, none), (60, none), (61, none)]
    | 19 => some [(4, none), (12, some (.one (.int .i64))), (101, none), (102, none), (103, none), (104, none), (105, none), (106, none), (107, none), (108, none), (109, none), (110, none), (111, none), (112, none), (113, none), (114, none), (115, none), (116, none), (117, none), (118, none), (119, none), (120, none), (121, none), (122, none), (123, none), (124, none), (125, none), (126, none), (127, none), (128, none), (129, none), (130, none), (131, none), (132, none), (133, none), (134, none), (135, none), (136, none), (137, none), (138, none), (139, none), (140, none), (141, none), (142, none), (143, none), (144, none), (145, none), (146, none), (147, none), (148, none), (149, none), (150, none), (151, none), (152, none), (153, none), (154, none), (155, none), (156, none), (157, none)]
    | 24 => some [(4, none), (13, some (.one (.int .i64))), (158, none), (159, none), (160, none), (161, none), (162, none), (163, none), (164, none), (165, none), (166, none), (167, none), (168, none), (169, none), (170, none), (171, none), (172, none), (173, none), (174, none), (175, none), (176, none), (177, none), (178, none), (179, none), (180, none), (181, none), (182, none), (183, none), (184, none), (185, none), (186, none), (187, none), (188, none), (189, none), (190, none), (191, none), (192, none), (193, none), (194, none)]
    | _ => none

def purlinlaw14_LineExpires.L2 (now : Int) (R : Value → World → Prop) (b : Nat) (t89A : Option Addr) (t89N : Nat) (i2 : Int) (w17 : World) (Nx2 : Int → World → Prop) : Prop :=
 br (decide (i2 < ((t89N : Nat) : Int))) (
 0 ≤ (i2 : Int) ∧ i2 < ((t89N : Nat) : Int) ∧ okP t89A (
 ∃ t167 : Int, w17.cell? ⟨(pb t89A), po t89A + i2.toNat * 1, none⟩ = some (.int .i64 t167) ∧
 br (decide (t167 < 0)) (
 R (.bool false) w17) (
 0 ≤ (i2 : Int) ∧ i2 < ((t89N : Nat) : Int) ∧ okP t89A (
 ∃ t173 : Int, w17.cell? ⟨(pb t89A), po t89A + i2.toNat * 1, none⟩ = some (.int .i64 t173) ∧
 br (decide (t173 > 65535)) (
 R (.bool false) w17) (
 0 ≤ (i2 : Int) ∧ i2 < ((t89N : Nat) : Int) ∧ okP t89A (
 ∃ t180 : Int, w17.cell? ⟨(pb t89A), po t89A + i2.toNat * 1, none⟩ = some (.int .i64 t180) ∧
 0 ≤ (t180 : Int) ∧ t180 < (65536 : Int) ∧ ∃ t182 : Int, w17.cell? ⟨b, 0 + t180.toNat * 1, none⟩ = some (.int .i64 t182) ∧
 br (t182 != (-1)) (
 0 ≤ (i2 : Int) ∧ i2 < ((t89N : Nat) : Int) ∧ okP t89A (
 ∃ t188 : Int, w17.cell? ⟨(pb t89A), po t89A + i2.toNat * 1, none⟩ = some (.int .i64 t188) ∧
 0 ≤ (t188 : Int) ∧ t188 < (65536 : Int) ∧ ∃ t190 : Int, w17.cell? ⟨b, 0 + t188.toNat * 1, none⟩ = some (.int .i64 t190) ∧
 br (decide (t190 ≤ now)) (
 R (.bool false) w17) (
 Nx2 (IntKind.wrap .i64 (i2 + 1)) w17))) (
 Nx2 (IntKind.wrap .i64 (i2 + 1)) w17))))))) (
 R (.bool true) w17)

def purlinlaw14_LineExpires.L1 (now : Int) (R : Value → World → Prop) (b : Nat) (n : Int) (t65A : Option Addr) (t65N : Nat) (t89A : Option Addr) (t89N : Nat) (dead : Nat → Value) (i1 : Int) (w15 : World) (Nx1 : Int → World → Prop) : Prop :=
 br (decide (i1 < ((t65N : Nat) : Int))) (
 drawC w15 fun w16 =>
 0 ≤ (i1 : Int) ∧ i1 < ((t65N : Nat) : Int) ∧ okP t65A (
 ∃ t110 : Int, w16.cell? ⟨(pb t65A), po t65A + i1.toNat * 1, none⟩ = some (.int .i64 t110) ∧
 br (decide (t110 < 0)) (
 R (.bool false) w16) (
 0 ≤ (i1 : Int) ∧ i1 < ((t65N : Nat) : Int) ∧ okP t65A (
 ∃ t116 : Int, w16.cell? ⟨(pb t65A), po t65A + i1.toNat * 1, none⟩ = some (.int .i64 t116) ∧
 br (decide (t116 > 65535)) (
 R (.bool false) w16) (
 0 ≤ (i1 : Int) ∧ i1 < ((t65N : Nat) : Int) ∧ okP t65A (
 ∃ t123 : Int, w16.cell? ⟨(pb t65A), po t65A + i1.toNat * 1, none⟩ = some (.int .i64 t123) ∧
 0 ≤ (t123 : Int) ∧ t123 < (65536 : Int) ∧ ∃ t125 : Int, w16.cell? ⟨b, 0 + t123.toNat * 1, none⟩ = some (.int .i64 t125) ∧
 br (decide (t125 < 1)) (
 R (.bool false) w16) (
 0 ≤ (i1 : Int) ∧ i1 < ((t65N : Nat) : Int) ∧ okP t65A (
 ∃ t132 : Int, w16.cell? ⟨(pb t65A), po t65A + i1.toNat * 1, none⟩ = some (.int .i64 t132) ∧
 0 ≤ (t132 : Int) ∧ t132 < (65536 : Int) ∧ ∃ t134 : Int, w16.cell? ⟨b, 0 + t132.toNat * 1, none⟩ = some (.int .i64 t134) ∧
 br (decide (t134 > now)) (
 R (.bool false) w16) (
 br (decide (i1 > 0)) (
 0 ≤ (IntKind.wrap .i64 (i1 - 1) : Int) ∧ IntKind.wrap .i64 (i1 - 1) < ((t65N : Nat) : Int) ∧ okP t65A (
 ∃ t146 : Int, w16.cell? ⟨(pb t65A), po t65A + (IntKind.wrap .i64 (i1 - 1)).toNat * 1, none⟩ = some (.int .i64 t146) ∧
 0 ≤ (t146 : Int) ∧ t146 < (65536 : Int) ∧ ∃ t148 : Int, w16.cell? ⟨b, 0 + t146.toNat * 1, none⟩ = some (.int .i64 t148) ∧
 0 ≤ (i1 : Int) ∧ i1 < ((t65N : Nat) : Int) ∧ okP t65A (
 ∃ t152 : Int, w16.cell? ⟨(pb t65A), po t65A + i1.toNat * 1, none⟩ = some (.int .i64 t152) ∧
 0 ≤ (t152 : Int) ∧ t152 < (65536 : Int) ∧ ∃ t154 : Int, w16.cell? ⟨b, 0 + t152.toNat * 1, none⟩ = some (.int .i64 t154) ∧
 br (decide (t148 > t154)) (
 R (.bool false) w16) (
 Nx1 (IntKind.wrap .i64 (i1 + 1)) w16)))) (
 Nx1 (IntKind.wrap .i64 (i1 + 1)) w16)))))))))) (
 ∃ I : Nat → Int → World → Prop, (∃ n, I n 0 w15) ∧ ∀ (n9 : Nat) (dead : Nat → Value) (w17 : World) (i2 : Int), I n9 i2 w17 →
 purlinlaw14_LineExpires.L2 now R b t89A t89N i2 w17 (fun x0 w9 => ∃ m, m < n9 ∧ I m x0 w9))

def purlinlaw14_LineExpires.K0 (now : Int) (R : Value → World → Prop) (t14P : Option Addr) (b : Nat) (n : Int) (w4 : World) : Prop :=
 Calls Try.prog 30 #[.pointer t14P, .int .i64 now] w4 (fun e w10 => ∃ t65A : Option Addr, ∃ t65N : Nat, ∃ t65C : Nat, ∃ t65 : Int, e = .returned (.tuple #[.slice t65A t65N t65C, .int .i64 t65]) ∧
 br (decide (now < 0)) (
 br (t65 == 144) (
 br (((t65N : Nat) : Int) == 0) (
 Calls Try.prog 29 #[.pointer t14P] w10 (fun e w11 => ∃ t83A : Option Addr, ∃ t83N : Nat, ∃ t83C : Nat, e = .returned (.slice t83A t83N t83C) ∧
 R (.bool (((t83N : Nat) : Int) == n)) w11)) (
 R (.bool false) w10)) (
 R (.bool false) w10)) (
 br (decide (now > 1099511627776)) (
 br (t65 == 144) (
 br (((t65N : Nat) : Int) == 0) (
 Calls Try.prog 29 #[.pointer t14P] w10 (fun e w13 => ∃ t83A1 : Option Addr, ∃ t83N1 : Nat, ∃ t83C1 : Nat, e = .returned (.slice t83A1 t83N1 t83C1) ∧
 R (.bool (((t83N1 : Nat) : Int) == n)) w13)) (
 R (.bool false) w10)) (
 R (.bool false) w10)) (
 Calls Try.prog 29 #[.pointer t14P] w10 (fun e w14 => ∃ t89A : Option Addr, ∃ t89N : Nat, ∃ t89C : Nat, e = .returned (.slice t89A t89N t89C) ∧
 br (t65 != 0) (
 R (.bool false) w14) (
 br (IntKind.wrap .i64 (((t65N : Nat) : Int) + ((t89N : Nat) : Int)) != n) (
 R (.bool false) w14) (
 ∃ I : Nat → Int → World → Prop, (∃ n, I n 0 w14) ∧ ∀ (n9 : Nat) (dead : Nat → Value) (w15 : World) (i1 : Int), I n9 i1 w15 →
 purlinlaw14_LineExpires.L1 now R b n t65A t65N t89A t89N dead i1 w15 (fun x0 w9 => ∃ m, m < n9 ∧ I m x0 w9)))))))

def purlinlaw14_LineExpires.L0 (putsA : Option Addr) (putsN : Nat) (now : Int) (R : Value → World → Prop) (t14P : Option Addr) (b : Nat) (n : Int) (i : Int) (w4 : World) (Nx0 : Int → Int → World → Prop) : Prop :=
 br (decide (i < ((putsN : Nat) : Int))) (
 br (decide (i < 60)) (
 drawC w4 fun w5 =>
 0 ≤ (i : Int) ∧ i < ((putsN : Nat) : Int) ∧ okP putsA (
 ∃ t36 : Int, w5.cell? ⟨(pb putsA), po putsA + i.toNat * 4 + 1, none⟩ = some (.int .i64 t36) ∧
 0 ≤ (i : Int) ∧ i < ((putsN : Nat) : Int) ∧ okP putsA (
 ∃ t41 : Int, w5.cell? ⟨(pb putsA), po putsA + i.toNat * 4 + 2, none⟩ = some (.int .i64 t41) ∧
 0 ≤ (i : Int) ∧ i < ((putsN : Nat) : Int) ∧ okP putsA (
 ∃ t46 : Int, w5.cell? ⟨(pb putsA), po putsA + i.toNat * 4 + 3, none⟩ = some (.int .i64 t46) ∧
 Calls Try.prog 28 #[.pointer t14P, .int .i64 t36, .int .i64 t41, .int .i64 t46] w5 (fun e w6 => ∃ t47 : Int, e = .returned (.int .i64 t47) ∧
 br (t47 == 0) (
 drawC w6 fun w7 =>
 0 ≤ (i : Int) ∧ i < ((putsN : Nat) : Int) ∧ okP putsA (
 ∃ t53 : Int, w7.cell? ⟨(pb putsA), po putsA + i.toNat * 4 + 1, none⟩ = some (.int .i64 t53) ∧
 0 ≤ (i : Int) ∧ i < ((putsN : Nat) : Int) ∧ okP putsA (
 ∃ t58 : Int, w7.cell? ⟨(pb putsA), po putsA + i.toNat * 4 + 3, none⟩ = some (.int .i64 t58) ∧
 0 ≤ (t53 : Int) ∧ t53 < (65536 : Int) ∧ storeC w7 b (0 + t53.toNat * 1) [.int .i64 t58] fun w8 =>
 Nx0 (IntKind.wrap .i64 (n + 1)) (IntKind.wrap .i64 (i + 1)) w8))) (
 Nx0 n (IntKind.wrap .i64 (i + 1)) w6)))))) (
 purlinlaw14_LineExpires.K0 now R t14P b n w4)) (
 purlinlaw14_LineExpires.K0 now R t14P b n w4)

def purlinlaw14_LineExpires.F (putsA : Option Addr) (putsN : Nat) (putsC : Nat) (now : Int) (w : World) (R : Value → World → Prop) : Prop :=
 Calls Try.prog 26 #[] w (fun e w1 => ∃ t14P : Option Addr, e = .returned (.pointer t14P) ∧
 Calls Try.prog 27 #[] w1 (fun e w2 => ∃ t15 : Bool, e = .returned (.bool t15) ∧
 br (!t15) (
 R (.bool false) w2) (
 br ((t14P : Option Addr).isNone) (
 R (.bool false) w2) (
 newBlk w2 (.cells (zcells Try.prog 59) 59 (0, 0)) fun b w3 =>
 ∃ I : Nat → Int → Int → World → Prop, (∃ n, I n 0 0 w3) ∧ ∀ (n9 : Nat) (dead : Nat → Value) (w4 : World) (n : Int) (i : Int), I n9 n i w4 →
 purlinlaw14_LineExpires.L0 putsA putsN now R t14P b n i w4 (fun x0 x1 w9 => ∃ m, m < n9 ∧ I m x0 x1 w9)))))

theorem purlinlaw14_LineExpires.vc (putsA : Option Addr) (putsN : Nat) (putsC : Nat) (now : Int) (w : World) (R : Value → World → Prop) : fnVC Try.prog purlinlaw14_LineExpires.A Try.f8 [.slice putsA putsN putsC, .int .i64 now] w R = purlinlaw14_LineExpires.F putsA putsN putsC now w R := by kernel_rfl
theorem purlinlaw14_LineExpires.calls (putsA : Option Addr) (putsN : Nat) (putsC : Nat) (now : Int) (w : World) (R : Value → World → Prop) (h : purlinlaw14_LineExpires.F putsA putsN putsC now w R) : Calls Try.prog 8 #[.slice putsA putsN putsC, .int .i64 now] w (Ret R) :=
  calls_of_vc mixed Try.func8 (Eq.mpr (purlinlaw14_LineExpires.vc putsA putsN putsC now w R) h)

/-! ### purlin/purlinlaw14.LineDrops: function 11 -/
def purlinlaw14_LineDrops.A : Ann where
  sched := fun i => match i with
    | _ => none
  loop := fun i => match i with
    | 8 => some [(7, some (.one (.bool))), (8, some (.one (.slice))), (9, some (.one (.int .i64))), (24, none), (25, none), (26, none), (27, none), (28, none), (29, none), (30, none), (31, none), (32, none), (33, none), (34, none), (35, none), (36, none), (37, none), (38, none), (39, none), (40, none), (41, none), (42, none)]
    | _ => none

def purlinlaw14_LineDrops.K0 (id : Int) (R : Value → World → Prop) (t14P : Option Addr) (here : Bool) (restA : Option Addr) (restN : Nat) (restC : Nat) (t64 : Bool) (w12 : World) : Prop :=
 br t64 (
 R (.bool false) w12) (
 br (!here) (
 R (.bool true) w12) (
 newBlk w12 (.cells #[] 3 (0, 0)) fun b2 w13 =>
 Calls Try.prog 28 #[.pointer t14P, .int .i64 id, .int .i64 0, .int .i64 (-1)] w13 (fun e w14 => ∃ t70 : Int, e = .returned (.int .i64 t70) ∧
 ∃ t73A : Option Addr, ∃ t73N : Nat, ∃ t73C : Nat, ∃ w15 : World, (Builtin.append_ #[56, 56] 56 #[.slice (some ⟨b2, 0, none⟩) 0 0, .slice restA restN restC]).run Try.prog w14 = .ok (.slice t73A t73N t73C) w15 ∧
 newBlk w15 (.cells #[.int .i64 id] 3 (0, 0)) fun b3 w16 =>
 ∃ t76A : Option Addr, ∃ t76N : Nat, ∃ t76C : Nat, ∃ w17 : World, (Builtin.append_ #[56, 56] 56 #[.slice t73A t73N t73C, .slice (some ⟨b3, 0, none⟩) 1 1]).run Try.prog w16 = .ok (.slice t76A t76N t76C) w17 ∧
 br (t70 == 0) (
 Calls Try.prog 29 #[.pointer t14P] w17 (fun e w18 => ∃ t81A : Option Addr, ∃ t81N : Nat, ∃ t81C : Nat, e = .returned (.slice t81A t81N t81C) ∧
 Calls Try.prog 34 #[.slice t81A t81N t81C, .slice t76A t76N t76C] w18 (fun e w19 => ∃ t83 : Bool, e = .returned (.bool t83) ∧
 br t83 (
 Calls Try.prog 28 #[.pointer t14P, .int .i64 id, .int .i64 0, .int .i64 (-1)] w19 (fun e w20 => ∃ t88 : Int, e = .returned (.int .i64 t88) ∧
 R (.bool (t88 == 141)) w20)) (
 R (.bool false) w19)))) (
 R (.bool false) w17))))

def purlinlaw14_LineDrops.L0 (id : Int) (R : Value → World → Prop) (t14P : Option Addr) (t22A : Option Addr) (t22N : Nat) (here : Bool) (restA : Option Addr) (restN : Nat) (restC : Nat) (i : Int) (w5 : World) (Nx0 : Bool → Option Addr → Nat → Nat → Int → World → Prop) : Prop :=
 br (decide (i < ((t22N : Nat) : Int))) (
 0 ≤ (i : Int) ∧ i < ((t22N : Nat) : Int) ∧ okP t22A (
 ∃ t33 : Int, w5.cell? ⟨(pb t22A), po t22A + i.toNat * 1, none⟩ = some (.int .i64 t33) ∧
 br (t33 == id) (
 Nx0 true restA restN restC (IntKind.wrap .i64 (i + 1)) w5) (
 0 ≤ (i : Int) ∧ i < ((t22N : Nat) : Int) ∧ okP t22A (
 ∃ t40 : Int, w5.cell? ⟨(pb t22A), po t22A + i.toNat * 1, none⟩ = some (.int .i64 t40) ∧
 newBlk w5 (.cells #[.int .i64 t40] 3 (0, 0)) fun b1 w6 =>
 ∃ t42A : Option Addr, ∃ t42N : Nat, ∃ t42C : Nat, ∃ w7 : World, (Builtin.append_ #[56, 56] 56 #[.slice restA restN restC, .slice (some ⟨b1, 0, none⟩) 1 1]).run Try.prog w6 = .ok (.slice t42A t42N t42C) w7 ∧
 Nx0 here t42A t42N t42C (IntKind.wrap .i64 (i + 1)) w7)))) (
 Calls Try.prog 38 #[.pointer t14P, .int .i64 id] w5 (fun e w8 => ∃ t45 : Int, e = .returned (.int .i64 t45) ∧
 br (!(here == (t45 == 0))) (
 R (.bool false) w8) (
 br (!here) (
 br (t45 != 142) (
 R (.bool false) w8) (
 Calls Try.prog 29 #[.pointer t14P] w8 (fun e w10 => ∃ t60A : Option Addr, ∃ t60N : Nat, ∃ t60C : Nat, e = .returned (.slice t60A t60N t60C) ∧
 Calls Try.prog 34 #[.slice t60A t60N t60C, .slice restA restN restC] w10 (fun e w11 => ∃ t62 : Bool, e = .returned (.bool t62) ∧
 purlinlaw14_LineDrops.K0 id R t14P here restA restN restC (!t62) w11)))) (
 Calls Try.prog 29 #[.pointer t14P] w8 (fun e w22 => ∃ t60A1 : Option Addr, ∃ t60N1 : Nat, ∃ t60C1 : Nat, e = .returned (.slice t60A1 t60N1 t60C1) ∧
 Calls Try.prog 34 #[.slice t60A1 t60N1 t60C1, .slice restA restN restC] w22 (fun e w23 => ∃ t621 : Bool, e = .returned (.bool t621) ∧
 purlinlaw14_LineDrops.K0 id R t14P here restA restN restC (!t621) w23))))))

def purlinlaw14_LineDrops.F (callsA : Option Addr) (callsN : Nat) (callsC : Nat) (id : Int) (w : World) (R : Value → World → Prop) : Prop :=
 Calls Try.prog 36 #[.slice callsA callsN callsC] w (fun e w1 => ∃ t14P : Option Addr, e = .returned (.pointer t14P) ∧
 Calls Try.prog 27 #[] w1 (fun e w2 => ∃ t15 : Bool, e = .returned (.bool t15) ∧
 br (!t15) (
 R (.bool false) w2) (
 br ((t14P : Option Addr).isNone) (
 R (.bool false) w2) (
 Calls Try.prog 29 #[.pointer t14P] w2 (fun e w3 => ∃ t22A : Option Addr, ∃ t22N : Nat, ∃ t22C : Nat, e = .returned (.slice t22A t22N t22C) ∧
 newBlk w3 (.cells #[] 3 (0, 0)) fun b w4 =>
 ∃ I : Nat → Bool → Option Addr → Nat → Nat → Int → World → Prop, (∃ n, I n false (some ⟨b, 0, none⟩) 0 0 0 w4) ∧ ∀ (n9 : Nat) (dead : Nat → Value) (w5 : World) (here : Bool) (restA : Option Addr) (restN : Nat) (restC : Nat) (i : Int), I n9 here restA restN restC i w5 →
 purlinlaw14_LineDrops.L0 id R t14P t22A t22N here restA restN restC i w5 (fun x0 x1 x2 x3 x4 w9 => ∃ m, m < n9 ∧ I m x0 x1 x2 x3 x4 w9))))))

theorem purlinlaw14_LineDrops.vc (callsA : Option Addr) (callsN : Nat) (callsC : Nat) (id : Int) (w : World) (R : Value → World → Prop) : fnVC Try.prog purlinlaw14_LineDrops.A Try.f11 [.slice callsA callsN callsC, .int .i64 id] w R = purlinlaw14_LineDrops.F callsA callsN callsC id w R := by kernel_rfl
theorem purlinlaw14_LineDrops.calls (callsA : Option Addr) (callsN : Nat) (callsC : Nat) (id : Int) (w : World) (R : Value → World → Prop) (h : purlinlaw14_LineDrops.F callsA callsN callsC id w R) : Calls Try.prog 11 #[.slice callsA callsN callsC, .int .i64 id] w (Ret R) :=
  calls_of_vc mixed Try.func11 (Eq.mpr (purlinlaw14_LineDrops.vc callsA callsN callsC id w R) h)

end Go.Proofs.Ytgkbokhmmoemfaa
