/- Printed by vcgen.py: of each function of this text its weakest precondition as a formula, and that it is one. Conditions: none. -/
import Derived.Test.YtecacohkkdhphaaVcCode
import Derived.Test.YtecacohkkdhphaaVcMem
import Derived.Test.YtecacohkkdhphaaChecked
namespace Go.Proofs.Ytecacohkkdhphaa
open Go.Vc
set_option linter.unusedVariables false
set_option maxRecDepth 100000

/-! ### purlin/purlinlaw15.awake: function 36 -/
def purlinlaw15_awake.A : Ann where
  sched := fun i => match i with
    | _ => none
  loop := fun i => match i with
    | _ => none

def purlinlaw15_awake.F (w : World) (R : Value → World → Prop) : Prop :=
 Calls Try.prog 35 #[.int .i64 1, .int .i64 2] w (fun e w1 => ∃ t24P : Option Addr, ∃ t24 : Int, e = .returned (.tuple #[.pointer t24P, .int .i64 t24]) ∧
 br (t24 != 0) (
 R (.bool false) w1) (
 br ((t24P : Option Addr).isNone) (
 R (.bool false) w1) (
 Calls Try.prog 37 #[.pointer t24P, .int .i64 7, .int .i64 5, .int .i64 (-1)] w1 (fun e w2 => ∃ t35 : Bool, ∃ t351 : Int, e = .returned (.tuple #[.bool t35, .int .i64 t351]) ∧
 Calls Try.prog 37 #[.pointer t24P, .int .i64 8, .int .i64 5, .int .i64 0] w2 (fun e w3 => ∃ t40 : Bool, ∃ t401 : Int, e = .returned (.tuple #[.bool t40, .int .i64 t401]) ∧
 Calls Try.prog 37 #[.pointer t24P, .int .i64 8, .int .i64 5, .int .i64 (-1)] w3 (fun e w4 => ∃ t45 : Bool, ∃ t451 : Int, e = .returned (.tuple #[.bool t45, .int .i64 t451]) ∧
 Calls Try.prog 37 #[.pointer t24P, .int .i64 9, .int .i64 6, .int .i64 10] w4 (fun e w5 => ∃ t50 : Bool, ∃ t501 : Int, e = .returned (.tuple #[.bool t50, .int .i64 t501]) ∧
 Calls Try.prog 38 #[.pointer t24P] w5 (fun e w6 => ∃ t55 : Int, ∃ t551 : Bool, ∃ t552 : Int, e = .returned (.tuple #[.int .i64 t55, .bool t551, .int .i64 t552]) ∧
 Calls Try.prog 38 #[.pointer t24P] w6 (fun e w7 => ∃ t61 : Int, ∃ t611 : Bool, ∃ t612 : Int, e = .returned (.tuple #[.int .i64 t61, .bool t611, .int .i64 t612]) ∧
 Calls Try.prog 38 #[.pointer t24P] w7 (fun e w8 => ∃ t67 : Int, ∃ t671 : Bool, ∃ t672 : Int, e = .returned (.tuple #[.int .i64 t67, .bool t671, .int .i64 t672]) ∧
 Calls Try.prog 38 #[.pointer t24P] w8 (fun e w9 => ∃ t72 : Int, ∃ t721 : Bool, ∃ t722 : Int, e = .returned (.tuple #[.int .i64 t72, .bool t721, .int .i64 t722]) ∧
 Calls Try.prog 38 #[.pointer t24P] w9 (fun e w10 => ∃ t75 : Int, ∃ t751 : Bool, ∃ t752 : Int, e = .returned (.tuple #[.int .i64 t75, .bool t751, .int .i64 t752]) ∧
 br t35 (
 br (t351 == 0) (
 br (!t40) (
 br (t401 == 0) (
 br (!t45) (
 br (t451 == 0) (
 br (!t50) (
 br (t501 == 0) (
 br (t55 == 9) (
 br t551 (
 br (t552 == 0) (
 br (t61 == 8) (
 br t611 (
 br (t612 == 0) (
 br (!t671) (
 br (t672 == 0) (
 br (t752 == 151) (
 Calls Try.prog 51 #[.pointer t24P] w10 (fun e w11 => ∃ t144 : Int, e = .returned (.int .i64 t144) ∧
 R (.bool (t144 == 2)) w11)) (
 R (.bool false) w10)) (
 R (.bool false) w10)) (
 R (.bool false) w10)) (
 R (.bool false) w10)) (
 R (.bool false) w10)) (
 R (.bool false) w10)) (
 R (.bool false) w10)) (
 R (.bool false) w10)) (
 R (.bool false) w10)) (
 R (.bool false) w10)) (
 R (.bool false) w10)) (
 R (.bool false) w10)) (
 R (.bool false) w10)) (
 R (.bool false) w10)) (
 R (.bool false) w10)) (
 R (.bool false) w10)) (
 R (.bool false) w10)))))))))))))

theorem purlinlaw15_awake.vc (w : World) (R : Value → World → Prop) : fnVC Try.prog purlinlaw15_awake.A Try.f36 [] w R = purlinlaw15_awake.F w R := by kernel_rfl
theorem purlinlaw15_awake.calls (w : World) (R : Value → World → Prop) (h : purlinlaw15_awake.F w R) : Calls Try.prog 36 #[] w (Ret R) :=
  calls_of_vc mixed Try.func36 (Eq.mpr (purlinlaw15_awake.vc w R) h)

/-! ### purlin/purlinlaw15.SemaOrder: function 9 -/
def purlinlaw15_SemaOrder.A : Ann where
  sched := fun i => match i with
    | _ => none
  loop := fun i => match i with
    | 5 => some [(4, none), (7, some (.one (.int .i64))), (8, none), (9, none), (31, none), (32, none), (33, none), (34, none), (35, none), (36, none), (37, none), (38, none), (39, none), (40, none), (41, none), (42, none), (43, none), (44, none), (45, none), (46, none), (47, none), (48, none), (49, none), (50, none), (51, none), (52, none), (53, none), (54, none), (55, none), (56, none), (57, none)]
    | 12 => some [(4, none), (10, some (.one (.int .i64))), (11, some (.one (.int .i64))), (12, some (.one (.int .i64))), (13, none), (14, none), (15, none), (16, none), (58, none), (59, none), (60, none), (61, none), (62, none), (63, none), (64, none), (65, none), (66, none), (67, none), (68, none), (69, none), (70, none), (71, none), (72, none), (73, none), (74, none), (75, none), (76, none), (77, none), (78, none), (79, none), (80, none), (81, none), (82, none), (83, none), (84, none), (85, none), (86, none), (87, none), (88, none), (89, none), (90, none), (91, none), (92, none), (93, none), (94, none), (95, none), (96, none), (97, none), (98, none), (99, none), (100, none), (101, none), (102, none), (103, none), (104, none), (105, none), (106, none), (107, none), (108, none), (109, none), (110, none), (111, none), (112, none), (113, none), (114, none), (115, none), (116, none)]
    | _ => none

def purlinlaw15_SemaOrder.L1 (priosA : Option Addr) (priosN : Nat) (signals : Int) (R : Value → World → Prop) (t18P : Option Addr) (last : Int) (at1 : Int) (i1 : Int) (w5 : World) (Nx1 : Int → Int → Int → World → Prop) : Prop :=
 br (decide (i1 < IntKind.wrap .i64 signals)) (
 br (decide (i1 < ((priosN : Nat) : Int))) (
 br (decide (i1 < 80)) (
 Calls Try.prog 38 #[.pointer t18P] w5 (fun e w6 => ∃ t76 : Int, ∃ t761 : Bool, ∃ t762 : Int, e = .returned (.tuple #[.int .i64 t76, .bool t761, .int .i64 t762]) ∧
 br (!t761) (
 R (.bool false) w6) (
 br (t762 != 0) (
 R (.bool false) w6) (
 br (decide (t76 < 0)) (
 R (.bool false) w6) (
 br (decide (t76 ≥ ((priosN : Nat) : Int))) (
 R (.bool false) w6) (
 0 ≤ (t76 : Int) ∧ t76 < ((priosN : Nat) : Int) ∧ okP priosA (
 ∃ t99 : Int, w6.cell? ⟨(pb priosA), po priosA + t76.toNat * 1, none⟩ = some (.int .u8 t99) ∧
 br (decide (IntKind.wrap .i64 (IntKind.wrap .u8 (((BitVec.ofInt 8 t99 &&& BitVec.ofInt 8 63).toNat : Nat))) > last)) (
 R (.bool false) w6) (
 br (IntKind.wrap .i64 (IntKind.wrap .u8 (((BitVec.ofInt 8 t99 &&& BitVec.ofInt 8 63).toNat : Nat))) == last) (
 br (decide (t76 ≤ at1)) (
 R (.bool false) w6) (
 Nx1 (IntKind.wrap .i64 (IntKind.wrap .u8 (((BitVec.ofInt 8 t99 &&& BitVec.ofInt 8 63).toNat : Nat)))) t76 (IntKind.wrap .i64 (i1 + 1)) w6)) (
 Nx1 (IntKind.wrap .i64 (IntKind.wrap .u8 (((BitVec.ofInt 8 t99 &&& BitVec.ofInt 8 63).toNat : Nat)))) t76 (IntKind.wrap .i64 (i1 + 1)) w6))))))))) (
 R (.bool true) w5)) (
 R (.bool true) w5)) (
 R (.bool true) w5)

def purlinlaw15_SemaOrder.K0 (priosA : Option Addr) (priosN : Nat) (signals : Int) (R : Value → World → Prop) (t18P : Option Addr) (w3 : World) : Prop :=
 ∃ I : Nat → Int → Int → Int → World → Prop, (∃ n, I n 64 (-1) 0 w3) ∧ ∀ (n9 : Nat) (dead : Nat → Value) (w5 : World) (last : Int) (at1 : Int) (i1 : Int), I n9 last at1 i1 w5 →
 purlinlaw15_SemaOrder.L1 priosA priosN signals R t18P last at1 i1 w5 (fun x0 x1 x2 w9 => ∃ m, m < n9 ∧ I m x0 x1 x2 w9)

def purlinlaw15_SemaOrder.L0 (priosA : Option Addr) (priosN : Nat) (signals : Int) (R : Value → World → Prop) (t18P : Option Addr) (i : Int) (w3 : World) (Nx0 : Int → World → Prop) : Prop :=
 br (decide (i < ((priosN : Nat) : Int))) (
 br (decide (i < 80)) (
 0 ≤ (i : Int) ∧ i < ((priosN : Nat) : Int) ∧ okP priosA (
 ∃ t47 : Int, w3.cell? ⟨(pb priosA), po priosA + i.toNat * 1, none⟩ = some (.int .u8 t47) ∧
 Calls Try.prog 37 #[.pointer t18P, .int .i64 i, .int .i64 (IntKind.wrap .i64 (IntKind.wrap .u8 (((BitVec.ofInt 8 t47 &&& BitVec.ofInt 8 63).toNat : Nat)))), .int .i64 (-1)] w3 (fun e w4 => ∃ t50 : Bool, ∃ t501 : Int, e = .returned (.tuple #[.bool t50, .int .i64 t501]) ∧
 br t50 (
 R (.bool false) w4) (
 br (t501 != 0) (
 R (.bool false) w4) (
 Nx0 (IntKind.wrap .i64 (i + 1)) w4))))) (
 purlinlaw15_SemaOrder.K0 priosA priosN signals R t18P w3)) (
 purlinlaw15_SemaOrder.K0 priosA priosN signals R t18P w3)

def purlinlaw15_SemaOrder.F (priosA : Option Addr) (priosN : Nat) (priosC : Nat) (signals : Int) (w : World) (R : Value → World → Prop) : Prop :=
 Calls Try.prog 35 #[.int .i64 0, .int .i64 255] w (fun e w1 => ∃ t18P : Option Addr, ∃ t18 : Int, e = .returned (.tuple #[.pointer t18P, .int .i64 t18]) ∧
 Calls Try.prog 36 #[] w1 (fun e w2 => ∃ t21 : Bool, e = .returned (.bool t21) ∧
 br (!t21) (
 R (.bool false) w2) (
 br (t18 != 0) (
 R (.bool false) w2) (
 br ((t18P : Option Addr).isNone) (
 R (.bool false) w2) (
 ∃ I : Nat → Int → World → Prop, (∃ n, I n 0 w2) ∧ ∀ (n9 : Nat) (dead : Nat → Value) (w3 : World) (i : Int), I n9 i w3 →
 purlinlaw15_SemaOrder.L0 priosA priosN signals R t18P i w3 (fun x0 w9 => ∃ m, m < n9 ∧ I m x0 w9))))))

theorem purlinlaw15_SemaOrder.vc (priosA : Option Addr) (priosN : Nat) (priosC : Nat) (signals : Int) (w : World) (R : Value → World → Prop) : fnVC Try.prog purlinlaw15_SemaOrder.A Try.f9 [.slice priosA priosN priosC, .int .u8 signals] w R = purlinlaw15_SemaOrder.F priosA priosN priosC signals w R := by kernel_rfl
theorem purlinlaw15_SemaOrder.calls (priosA : Option Addr) (priosN : Nat) (priosC : Nat) (signals : Int) (w : World) (R : Value → World → Prop) (h : purlinlaw15_SemaOrder.F priosA priosN priosC signals w R) : Calls Try.prog 9 #[.slice priosA priosN priosC, .int .u8 signals] w (Ret R) :=
  calls_of_vc mixed Try.func9 (Eq.mpr (purlinlaw15_SemaOrder.vc priosA priosN priosC signals w R) h)

/-! ### purlin/purlinlaw15.SemaPlays: function 13 -/
def purlinlaw15_SemaPlays.A : Ann where
  sched := fun i => match i with
    | 27 => some (none, .still 0 false 176 <| .still 1 false 177 <| .still 2 false 179 <| .still 3 false 183 <| .still 4 false 143 <| .still 5 false 159 <| .still 7 true 127 <| .eff 6 <| .still 8 false 255 <| .done)
    | 32 => some (none, .still 0 false 48 <| .still 1 false 49 <| .still 2 false 51 <| .still 3 false 55 <| .still 4 false 15 <| .still 5 false 31 <| .eff 6 <| .still 7 false 127 <| .still 8 false 767 <| .still 9 false 1535 <| .still 10 false 1023 <| .still 11 false 2047 <| .done)
    | 35 => some ((some 24576), .still 0 false 12 <| .still 2 true 3 <| .still 3 true 7 <| .eff 1 <| .still 4 false 15 <| .still 5 false 31 <| .still 6 false 6207 <| .still 7 false 6271 <| .still 8 false 6399 <| .still 9 false 6655 <| .still 11 true 2047 <| .still 12 true 4095 <| .eff 10 <| .eff 13 <| .eff 14 <| .still 15 false 32767 <| .still 16 false 65535 <| .done)
    | _ => none
  loop := fun i => match i with
    | 8 => some [(6, none), (11, some (.one (.int .i64))), (12, none), (13, none), (14, none), (15, none), (16, none), (17, none), (18, none), (19, none), (20, none), (21, none), (22, none), (23, none), (24, none), (25, none), (26, none), (27, none), (28, none), (29, none), (30, none), (31, none), (60, none), (61, none), (62, none), (63, none), (64, none), (65, none), (66, none), (67, none), (68, none), (69, none), (70, none), (71, none), (72, none), (73, none), (74, none), (75, none), (76, none), (77, none), (78, none), (79, none), (80, none), (81, none), (82, none), (83, none), (84, none), (85, none), (86, none), (87, none), (88, none), (89, none), (90, none), (91, none), (92, none), (93, none), (94, none), (95, none), (96, none), (97, none), (98, none), (99, none), (100, none), (101, none), (102, none), (103, none), (104, none), (105, none), (106, none), (107, none), (108, none), (109, none), (110, none), (111, none), (112, none), (113, none), (114, none), (115, none), (116, none), (117, none), (118, none), (119, none), (120, none), (121, none), (122, none), (123, none), (124, none), (125, none), (126, none), (127, none), (128, none), (129, none), (130, none), (131, none), (132, none), (133, none), (134, none), (135, none), (136, none), (137, none), (138, none), (139, none), (140, none), (141, none), (142, none), (143, none), (144, none), (145, none), (146, none), (147, none), (148, none), (149, none), (150, none), (151, none), (152, none), (153, none), (154, none), (155, none), (156, none), (157, none), (158, none), (159, none), (160, none), (161, none), (162, none), (163, none), (164, none), (165, none), (166, none), (167, none), (168, none), (169, none), (170, none), (171, none), (172, none), (173, none), (174, none), (175, none), (176, none), (177, none), (178, none), (179, none), (180, none), (181, none), (182, none), (183, none), (184, none), (185, none), (186, none), (187, none), (188, none), (189, none), (190, none), (191, none), (192, none), (193, none), (194, none), (195, none), (196, none), (197, none), (198, none), (199, none), (200, none), (201, none), (202, none), (203, none), (204, none), (205, none), (206, none), (207, none), (208, none)]
    | _ => none

def purlinlaw15_SemaPlays.K0 (R : Value → World → Prop) (t35P : Option Addr) (b : Nat) (i : Int) (Nx0 : Int → World → Prop) (w14 : World) : Prop :=
 ∃ S : World → Prop, S w14.drew ∧ drawC w14 fun w15 =>
 ∃ t195 : Int, (∀ w9 : World, S w9 → w9.cell? ⟨b, 2, none⟩ = some (.int .i64 t195)) ∧
 Calls Try.prog 51 #[.pointer t35P] w15 (fun e w16 => ∃ t193 : Int, e = .returned (.int .i64 t193) ∧
 S w16 ∧ br (t193 != t195) (
 R (.bool false) w16) (
 okP t35P (
 ∃ t201P : Option Addr, w16.cell? ⟨(pb t35P), po t35P, none⟩ = some (.pointer t201P) ∧
 ∃ t204A : Option Addr, ∃ t204N : Nat, ∃ t204C : Nat, (∀ w9 : World, S w9 → w9.cell? ⟨b, 0, none⟩ = some (.slice t204A t204N t204C)) ∧ ∃ t204 : Int, (∀ w9 : World, S w9 → w9.cell? ⟨b, 1, none⟩ = some (.int .i64 t204)) ∧ 
 Calls Try.prog 52 #[.pointer t201P] w16 (fun e w18 => ∃ t202A : Option Addr, ∃ t202N : Nat, ∃ t202C : Nat, e = .returned (.slice t202A t202N t202C) ∧
 S w18 ∧ Calls Try.prog 45 #[.agg #[.slice t204A t204N t204C, .int .i64 t204]] w18 (fun e w19 => ∃ t205A : Option Addr, ∃ t205N : Nat, ∃ t205C : Nat, e = .returned (.slice t205A t205N t205C) ∧
 Calls Try.prog 29 #[.slice t202A t202N t202C, .slice t205A t205N t205C] w19 (fun e w20 => ∃ t206 : Bool, e = .returned (.bool t206) ∧
 br (!t206) (
 R (.bool false) w20) (
 Nx0 (IntKind.wrap .i64 (i + 1)) w20)))))))

def purlinlaw15_SemaPlays.L0 (callsA : Option Addr) (callsN : Nat) (R : Value → World → Prop) (t35P : Option Addr) (b : Nat) (i : Int) (w6 : World) (Nx0 : Int → World → Prop) : Prop :=
 br (decide (i < ((callsN : Nat) : Int))) (
 br (decide (i < 60)) (
 0 ≤ (i : Int) ∧ i < ((callsN : Nat) : Int) ∧ okP callsA (
 ∃ t73 : Int, w6.cell? ⟨(pb callsA), po callsA + i.toNat * 4, none⟩ = some (.int .i64 t73) ∧ ∃ t731 : Int, w6.cell? ⟨(pb callsA), po callsA + i.toNat * 4 + 1, none⟩ = some (.int .i64 t731) ∧ ∃ t732 : Int, w6.cell? ⟨(pb callsA), po callsA + i.toNat * 4 + 2, none⟩ = some (.int .i64 t732) ∧ ∃ t733 : Int, w6.cell? ⟨(pb callsA), po callsA + i.toNat * 4 + 3, none⟩ = some (.int .i64 t733) ∧ 
 newBlk w6 (.cells #[.int .i64 0, .int .i64 0, .int .i64 0, .int .i64 0] 100 (0, 0)) fun b1 w7 =>
 storeC w7 b1 0 [.int .i64 t73, .int .i64 t731, .int .i64 t732, .int .i64 t733] fun w8 =>
 ∃ t75 : Int, w8.cell? ⟨b1, 0, none⟩ = some (.int .i64 t75) ∧
 br (t75 == 0) (
 ∃ t79A : Option Addr, ∃ t79N : Nat, ∃ t79C : Nat, w8.cell? ⟨b, 0, none⟩ = some (.slice t79A t79N t79C) ∧ ∃ t79 : Int, w8.cell? ⟨b, 1, none⟩ = some (.int .i64 t79) ∧ ∃ t791 : Int, w8.cell? ⟨b, 2, none⟩ = some (.int .i64 t791) ∧ ∃ t792 : Int, w8.cell? ⟨b, 3, none⟩ = some (.int .i64 t792) ∧ 
 ∃ t81 : Int, w8.cell? ⟨b1, 1, none⟩ = some (.int .i64 t81) ∧
 ∃ t83 : Int, w8.cell? ⟨b1, 2, none⟩ = some (.int .i64 t83) ∧
 ∃ t85 : Int, w8.cell? ⟨b1, 3, none⟩ = some (.int .i64 t85) ∧
 Calls Try.prog 47 #[.agg #[.slice t79A t79N t79C, .int .i64 t79, .int .i64 t791, .int .i64 t792], .int .i64 t81, .int .i64 t83, .int .i64 t85] w8 (fun e w9 => ∃ t86A : Option Addr, ∃ t86N : Nat, ∃ t86C : Nat, ∃ t86 : Int, ∃ t861 : Int, ∃ t862 : Int, ∃ t863 : Bool, ∃ t864 : Int, e = .returned (.tuple #[.agg #[.slice t86A t86N t86C, .int .i64 t86, .int .i64 t861, .int .i64 t862], .bool t863, .int .i64 t864]) ∧
 newBlk w9 (.cells #[.slice none 0 0, .int .i64 0, .int .i64 0, .int .i64 0] 97 (0, 0)) fun b2 w10 =>
 storeC w10 b2 0 [.slice t86A t86N t86C, .int .i64 t86, .int .i64 t861, .int .i64 t862] fun w11 =>
 ∃ t90A : Option Addr, ∃ t90N : Nat, ∃ t90C : Nat, w11.cell? ⟨b2, 0, none⟩ = some (.slice t90A t90N t90C) ∧ ∃ t90 : Int, w11.cell? ⟨b2, 1, none⟩ = some (.int .i64 t90) ∧ ∃ t901 : Int, w11.cell? ⟨b2, 2, none⟩ = some (.int .i64 t901) ∧ ∃ t902 : Int, w11.cell? ⟨b2, 3, none⟩ = some (.int .i64 t902) ∧ 
 storeC w11 b 0 [.slice t90A t90N t90C, .int .i64 t90, .int .i64 t901, .int .i64 t902] fun w12 =>
 ∃ t94 : Int, w12.cell? ⟨b1, 1, none⟩ = some (.int .i64 t94) ∧
 ∃ t96 : Int, w12.cell? ⟨b1, 2, none⟩ = some (.int .i64 t96) ∧
 ∃ t98 : Int, w12.cell? ⟨b1, 3, none⟩ = some (.int .i64 t98) ∧
 Calls Try.prog 37 #[.pointer t35P, .int .i64 t94, .int .i64 t96, .int .i64 t98] w12 (fun e w13 => ∃ t99 : Bool, ∃ t991 : Int, e = .returned (.tuple #[.bool t99, .int .i64 t991]) ∧
 br (!(t99 == t863)) (
 R (.bool false) w13) (
 br (t991 != t864) (
 R (.bool false) w13) (
 purlinlaw15_SemaPlays.K0 R t35P b i Nx0 w13))))) (
 br (t75 == 1) (
 ∃ t113A : Option Addr, ∃ t113N : Nat, ∃ t113C : Nat, w8.cell? ⟨b, 0, none⟩ = some (.slice t113A t113N t113C) ∧ ∃ t113 : Int, w8.cell? ⟨b, 1, none⟩ = some (.int .i64 t113) ∧ ∃ t1131 : Int, w8.cell? ⟨b, 2, none⟩ = some (.int .i64 t1131) ∧ ∃ t1132 : Int, w8.cell? ⟨b, 3, none⟩ = some (.int .i64 t1132) ∧ 
 Calls Try.prog 48 #[.agg #[.slice t113A t113N t113C, .int .i64 t113, .int .i64 t1131, .int .i64 t1132]] w8 (fun e w21 => ∃ t114A : Option Addr, ∃ t114N : Nat, ∃ t114C : Nat, ∃ t114 : Int, ∃ t1141 : Int, ∃ t1142 : Int, ∃ t1143 : Int, ∃ t1144 : Bool, ∃ t1145 : Int, e = .returned (.tuple #[.agg #[.slice t114A t114N t114C, .int .i64 t114, .int .i64 t1141, .int .i64 t1142], .int .i64 t1143, .bool t1144, .int .i64 t1145]) ∧
 newBlk w21 (.cells #[.slice none 0 0, .int .i64 0, .int .i64 0, .int .i64 0] 97 (0, 0)) fun b3 w22 =>
 storeC w22 b3 0 [.slice t114A t114N t114C, .int .i64 t114, .int .i64 t1141, .int .i64 t1142] fun w23 =>
 ∃ t119A : Option Addr, ∃ t119N : Nat, ∃ t119C : Nat, w23.cell? ⟨b3, 0, none⟩ = some (.slice t119A t119N t119C) ∧ ∃ t119 : Int, w23.cell? ⟨b3, 1, none⟩ = some (.int .i64 t119) ∧ ∃ t1191 : Int, w23.cell? ⟨b3, 2, none⟩ = some (.int .i64 t1191) ∧ ∃ t1192 : Int, w23.cell? ⟨b3, 3, none⟩ = some (.int .i64 t1192) ∧ 
 storeC w23 b 0 [.slice t119A t119N t119C, .int .i64 t119, .int .i64 t1191, .int .i64 t1192] fun w24 =>
 Calls Try.prog 38 #[.pointer t35P] w24 (fun e w25 => ∃ t122 : Int, ∃ t1221 : Bool, ∃ t1222 : Int, e = .returned (.tuple #[.int .i64 t122, .bool t1221, .int .i64 t1222]) ∧
 br (t122 != t1143) (
 R (.bool false) w25) (
 br (!(t1221 == t1144)) (
 R (.bool false) w25) (
 br (t1222 != t1145) (
 R (.bool false) w25) (
 purlinlaw15_SemaPlays.K0 R t35P b i Nx0 w25)))))) (
 br (t75 == 2) (
 ∃ t143A : Option Addr, ∃ t143N : Nat, ∃ t143C : Nat, w8.cell? ⟨b, 0, none⟩ = some (.slice t143A t143N t143C) ∧ ∃ t143 : Int, w8.cell? ⟨b, 1, none⟩ = some (.int .i64 t143) ∧ 
 ∃ t145 : Int, w8.cell? ⟨b1, 1, none⟩ = some (.int .i64 t145) ∧
 Calls Try.prog 42 #[.agg #[.slice t143A t143N t143C, .int .i64 t143], .int .i64 t145] w8 (fun e w26 => ∃ t146A : Option Addr, ∃ t146N : Nat, ∃ t146C : Nat, ∃ t146 : Int, ∃ t1461 : Int, e = .returned (.tuple #[.agg #[.slice t146A t146N t146C, .int .i64 t146], .int .i64 t1461]) ∧
 newBlk w26 (.cells #[.slice none 0 0, .int .i64 0] 77 (0, 0)) fun b4 w27 =>
 storeC w27 b4 0 [.slice t146A t146N t146C, .int .i64 t146] fun w28 =>
 ∃ t149A : Option Addr, ∃ t149N : Nat, ∃ t149C : Nat, w28.cell? ⟨b4, 0, none⟩ = some (.slice t149A t149N t149C) ∧ ∃ t149 : Int, w28.cell? ⟨b4, 1, none⟩ = some (.int .i64 t149) ∧ 
 storeC w28 b 0 [.slice t149A t149N t149C, .int .i64 t149] fun w29 =>
 drawC w29 fun w30 =>
 okP t35P (
 ∃ t154P : Option Addr, w30.cell? ⟨(pb t35P), po t35P, none⟩ = some (.pointer t154P) ∧
 ∃ t156 : Int, w30.cell? ⟨b1, 1, none⟩ = some (.int .i64 t156) ∧
 Calls Try.prog 49 #[.pointer t154P, .int .i64 t156] w30 (fun e w31 => ∃ t157 : Int, e = .returned (.int .i64 t157) ∧
 br (t157 != t1461) (
 R (.bool false) w31) (
 purlinlaw15_SemaPlays.K0 R t35P b i Nx0 w31))))) (
 br (t75 == 3) (
 ∃ t164A : Option Addr, ∃ t164N : Nat, ∃ t164C : Nat, w8.cell? ⟨b, 0, none⟩ = some (.slice t164A t164N t164C) ∧ ∃ t164 : Int, w8.cell? ⟨b, 1, none⟩ = some (.int .i64 t164) ∧ 
 ∃ t166 : Int, w8.cell? ⟨b1, 3, none⟩ = some (.int .i64 t166) ∧
 Calls Try.prog 43 #[.agg #[.slice t164A t164N t164C, .int .i64 t164], .int .i64 t166] w8 (fun e w32 => ∃ t167A : Option Addr, ∃ t167N : Nat, ∃ t167C : Nat, ∃ t167 : Int, ∃ t167A1 : Option Addr, ∃ t167N1 : Nat, ∃ t167C1 : Nat, ∃ t1671 : Int, e = .returned (.tuple #[.agg #[.slice t167A t167N t167C, .int .i64 t167], .slice t167A1 t167N1 t167C1, .int .i64 t1671]) ∧
 newBlk w32 (.cells #[.slice none 0 0, .int .i64 0] 77 (0, 0)) fun b5 w33 =>
 storeC w33 b5 0 [.slice t167A t167N t167C, .int .i64 t167] fun w34 =>
 ∃ t171A : Option Addr, ∃ t171N : Nat, ∃ t171C : Nat, w34.cell? ⟨b5, 0, none⟩ = some (.slice t171A t171N t171C) ∧ ∃ t171 : Int, w34.cell? ⟨b5, 1, none⟩ = some (.int .i64 t171) ∧ 
 storeC w34 b 0 [.slice t171A t171N t171C, .int .i64 t171] fun w35 =>
 drawC w35 fun w36 =>
 okP t35P (
 ∃ t177P : Option Addr, w36.cell? ⟨(pb t35P), po t35P, none⟩ = some (.pointer t177P) ∧
 ∃ t179 : Int, w36.cell? ⟨b1, 3, none⟩ = some (.int .i64 t179) ∧
 Calls Try.prog 50 #[.pointer t177P, .int .i64 t179] w36 (fun e w37 => ∃ t180A : Option Addr, ∃ t180N : Nat, ∃ t180C : Nat, ∃ t180 : Int, e = .returned (.tuple #[.slice t180A t180N t180C, .int .i64 t180]) ∧
 br (t180 != t1671) (
 R (.bool false) w37) (
 Calls Try.prog 29 #[.slice t180A t180N t180C, .slice t167A1 t167N1 t167C1] w37 (fun e w39 => ∃ t189 : Bool, e = .returned (.bool t189) ∧
 br (!t189) (
 R (.bool false) w39) (
 purlinlaw15_SemaPlays.K0 R t35P b i Nx0 w39))))))) (
 purlinlaw15_SemaPlays.K0 R t35P b i Nx0 w8)))))) (
 R (.bool true) w6)) (
 R (.bool true) w6)

def purlinlaw15_SemaPlays.F (init : Int) (most : Int) (callsA : Option Addr) (callsN : Nat) (callsC : Nat) (w : World) (R : Value → World → Prop) : Prop :=
 Calls Try.prog 35 #[.int .i64 init, .int .i64 most] w (fun e w1 => ∃ t35P : Option Addr, ∃ t35 : Int, e = .returned (.tuple #[.pointer t35P, .int .i64 t35]) ∧
 Calls Try.prog 46 #[.int .i64 init, .int .i64 most] w1 (fun e w2 => ∃ t41A : Option Addr, ∃ t41N : Nat, ∃ t41C : Nat, ∃ t41 : Int, ∃ t411 : Int, ∃ t412 : Int, ∃ t413 : Int, e = .returned (.tuple #[.agg #[.slice t41A t41N t41C, .int .i64 t41, .int .i64 t411, .int .i64 t412], .int .i64 t413]) ∧
 newBlk w2 (.cells #[.slice none 0 0, .int .i64 0, .int .i64 0, .int .i64 0] 97 (0, 0)) fun b w3 =>
 storeC w3 b 0 [.slice t41A t41N t41C, .int .i64 t41, .int .i64 t411, .int .i64 t412] fun w4 =>
 Calls Try.prog 36 #[] w4 (fun e w5 => ∃ t44 : Bool, e = .returned (.bool t44) ∧
 br (!t44) (
 R (.bool false) w5) (
 br (t35 != t413) (
 R (.bool false) w5) (
 br (!(((t35P : Option Addr).isNone) == (t35 != 0))) (
 R (.bool false) w5) (
 br ((t35P : Option Addr).isNone) (
 R (.bool true) w5) (
 ∃ I : Nat → Int → World → Prop, (∃ n, I n 0 w5) ∧ ∀ (n9 : Nat) (dead : Nat → Value) (w6 : World) (i : Int), I n9 i w6 →
 purlinlaw15_SemaPlays.L0 callsA callsN R t35P b i w6 (fun x0 w9 => ∃ m, m < n9 ∧ I m x0 w9))))))))

theorem purlinlaw15_SemaPlays.vc (init : Int) (most : Int) (callsA : Option Addr) (callsN : Nat) (callsC : Nat) (w : World) (R : Value → World → Prop) : fnVC Try.prog purlinlaw15_SemaPlays.A Try.f13 [.int .i64 init, .int .i64 most, .slice callsA callsN callsC] w R = purlinlaw15_SemaPlays.F init most callsA callsN callsC w R := by kernel_rfl
theorem purlinlaw15_SemaPlays.calls (init : Int) (most : Int) (callsA : Option Addr) (callsN : Nat) (callsC : Nat) (w : World) (R : Value → World → Prop) (h : purlinlaw15_SemaPlays.F init most callsA callsN callsC w R) : Calls Try.prog 13 #[.int .i64 init, .int .i64 most, .slice callsA callsN callsC] w (Ret R) :=
  calls_of_vc mixed Try.func13 (Eq.mpr (purlinlaw15_SemaPlays.vc init most callsA callsN callsC w R) h)

/-! ### purlin/purlinlaw15.SemaSums: function 14 -/
def purlinlaw15_SemaSums.A : Ann where
  sched := fun i => match i with
    | 25 => some (none, .still 0 false 48 <| .still 1 false 49 <| .still 2 false 51 <| .still 3 false 55 <| .still 4 false 15 <| .still 5 false 31 <| .eff 6 <| .done)
    | 27 => some (none, .still 0 false 48 <| .still 1 false 49 <| .still 2 false 51 <| .still 3 false 55 <| .still 4 false 15 <| .still 5 false 31 <| .eff 6 <| .done)
    | _ => none
  loop := fun i => match i with
    | 8 => some [(6, none), (11, some (.one (.int .i64))), (12, some (.one (.int .i64))), (13, some (.one (.int .i64))), (14, none), (15, none), (16, none), (17, none), (18, none), (19, none), (45, none), (46, none), (47, none), (48, none), (49, none), (50, none), (51, none), (52, none), (53, none), (54, none), (55, none), (56, none), (57, none), (58, none), (59, none), (60, none), (61, none), (62, none), (63, none), (64, none), (65, none), (66, none), (67, none), (68, none), (69, none), (70, none), (71, none), (72, none), (73, none), (74, none), (75, none), (76, none), (77, none), (78, none), (79, none), (80, none), (81, none), (82, none), (83, none), (84, none), (85, none), (86, none), (87, none), (88, none), (89, none), (90, none), (91, none), (92, none), (93, none), (94, none), (95, none), (96, none), (97, none), (98, none), (99, none), (100, none), (101, none), (102, none), (103, none), (104, none), (105, none), (106, none), (107, none), (108, none), (109, none), (110, none), (111, none), (112, none), (113, none), (114, none), (115, none), (116, none), (117, none), (118, none), (119, none), (120, none), (121, none), (122, none), (123, none), (124, none), (125, none), (126, none), (127, none), (128, none), (129, none), (130, none), (131, none), (132, none), (133, none), (134, none), (135, none), (136, none), (137, none), (138, none), (139, none), (140, none), (141, none), (142, none), (143, none), (144, none)]
    | _ => none

def purlinlaw15_SemaSums.K0 (init : Int) (most : Int) (R : Value → World → Prop) (t32P : Option Addr) (i : Int) (Nx0 : Int → Int → Int → World → Prop) (in2 : Int) (more1 : Int) (w7 : World) : Prop :=
 Calls Try.prog 51 #[.pointer t32P] w7 (fun e w8 => ∃ t113 : Int, e = .returned (.int .i64 t113) ∧
 br (decide (t113 < 0)) (
 R (.bool false) w8) (
 Calls Try.prog 51 #[.pointer t32P] w8 (fun e w11 => ∃ t117 : Int, e = .returned (.int .i64 t117) ∧
 br (decide (t117 > IntKind.wrap .i64 (1 + ((IntKind.wrap .i64 most).tmod 255)))) (
 R (.bool false) w11) (
 okP t32P (
 ∃ t125P : Option Addr, w11.cell? ⟨(pb t32P), po t32P, none⟩ = some (.pointer t125P) ∧
 Calls Try.prog 52 #[.pointer t125P] w11 (fun e w12 => ∃ t126A : Option Addr, ∃ t126N : Nat, ∃ t126C : Nat, e = .returned (.slice t126A t126N t126C) ∧
 br (decide (((t126N : Nat) : Int) > 0)) (
 Calls Try.prog 51 #[.pointer t32P] w12 (fun e w13 => ∃ t131 : Int, e = .returned (.int .i64 t131) ∧
 br (decide (t131 > 0)) (
 R (.bool false) w13) (
 Calls Try.prog 51 #[.pointer t32P] w13 (fun e w14 => ∃ t138 : Int, e = .returned (.int .i64 t138) ∧
 br (IntKind.wrap .i64 (in2 + t138) != IntKind.wrap .i64 ((IntKind.wrap .i64 init).tmod (IntKind.wrap .i64 (IntKind.wrap .i64 (1 + ((IntKind.wrap .i64 most).tmod 255)) + 1)) + more1)) (
 R (.bool false) w14) (
 Nx0 in2 more1 (IntKind.wrap .i64 (i + 1)) w14))))) (
 Calls Try.prog 51 #[.pointer t32P] w12 (fun e w16 => ∃ t1381 : Int, e = .returned (.int .i64 t1381) ∧
 br (IntKind.wrap .i64 (in2 + t1381) != IntKind.wrap .i64 ((IntKind.wrap .i64 init).tmod (IntKind.wrap .i64 (IntKind.wrap .i64 (1 + ((IntKind.wrap .i64 most).tmod 255)) + 1)) + more1)) (
 R (.bool false) w16) (
 Nx0 in2 more1 (IntKind.wrap .i64 (i + 1)) w16)))))))))

def purlinlaw15_SemaSums.L0 (init : Int) (most : Int) (callsA : Option Addr) (callsN : Nat) (R : Value → World → Prop) (t32P : Option Addr) (in1 : Int) (more : Int) (i : Int) (w3 : World) (Nx0 : Int → Int → Int → World → Prop) : Prop :=
 br (decide (i < ((callsN : Nat) : Int))) (
 br (decide (i < 80)) (
 0 ≤ (i : Int) ∧ i < ((callsN : Nat) : Int) ∧ okP callsA (
 ∃ t58 : Int, w3.cell? ⟨(pb callsA), po callsA + i.toNat * 4, none⟩ = some (.int .i64 t58) ∧ ∃ t581 : Int, w3.cell? ⟨(pb callsA), po callsA + i.toNat * 4 + 1, none⟩ = some (.int .i64 t581) ∧ ∃ t582 : Int, w3.cell? ⟨(pb callsA), po callsA + i.toNat * 4 + 2, none⟩ = some (.int .i64 t582) ∧ ∃ t583 : Int, w3.cell? ⟨(pb callsA), po callsA + i.toNat * 4 + 3, none⟩ = some (.int .i64 t583) ∧ 
 newBlk w3 (.cells #[.int .i64 0, .int .i64 0, .int .i64 0, .int .i64 0] 100 (0, 0)) fun b w4 =>
 storeC w4 b 0 [.int .i64 t58, .int .i64 t581, .int .i64 t582, .int .i64 t583] fun w5 =>
 ∃ t60 : Int, w5.cell? ⟨b, 0, none⟩ = some (.int .i64 t60) ∧
 br (t60 == 0) (
 ∃ t66 : Int, w5.cell? ⟨b, 1, none⟩ = some (.int .i64 t66) ∧
 ∃ t68 : Int, w5.cell? ⟨b, 2, none⟩ = some (.int .i64 t68) ∧
 ∃ t70 : Int, w5.cell? ⟨b, 3, none⟩ = some (.int .i64 t70) ∧
 Calls Try.prog 37 #[.pointer t32P, .int .i64 t66, .int .i64 t68, .int .i64 t70] w5 (fun e w6 => ∃ t71 : Bool, ∃ t711 : Int, e = .returned (.tuple #[.bool t71, .int .i64 t711]) ∧
 br t71 (
 br (t711 != 0) (
 R (.bool false) w6) (
 purlinlaw15_SemaSums.K0 init most R t32P i Nx0 (IntKind.wrap .i64 (in1 + 1)) more w6)) (
 purlinlaw15_SemaSums.K0 init most R t32P i Nx0 in1 more w6))) (
 br (t60 == 1) (
 Calls Try.prog 38 #[.pointer t32P] w5 (fun e w17 => ∃ t83 : Int, ∃ t831 : Bool, ∃ t832 : Int, e = .returned (.tuple #[.int .i64 t83, .bool t831, .int .i64 t832]) ∧
 br (t832 == 0) (
 br t831 (
 purlinlaw15_SemaSums.K0 init most R t32P i Nx0 (IntKind.wrap .i64 (in1 + 1)) (IntKind.wrap .i64 (more + 1)) w17) (
 purlinlaw15_SemaSums.K0 init most R t32P i Nx0 in1 (IntKind.wrap .i64 (more + 1)) w17)) (
 br t831 (
 purlinlaw15_SemaSums.K0 init most R t32P i Nx0 (IntKind.wrap .i64 (in1 + 1)) more w17) (
 purlinlaw15_SemaSums.K0 init most R t32P i Nx0 in1 more w17)))) (
 br (t60 == 2) (
 drawC w5 fun w19 =>
 okP t32P (
 ∃ t99P : Option Addr, w19.cell? ⟨(pb t32P), po t32P, none⟩ = some (.pointer t99P) ∧
 ∃ t101 : Int, w19.cell? ⟨b, 1, none⟩ = some (.int .i64 t101) ∧
 Calls Try.prog 49 #[.pointer t99P, .int .i64 t101] w19 (fun e w20 => ∃ t102 : Int, e = .returned (.int .i64 t102) ∧
 purlinlaw15_SemaSums.K0 init most R t32P i Nx0 in1 more w20))) (
 br (t60 == 3) (
 drawC w5 fun w21 =>
 okP t32P (
 ∃ t108P : Option Addr, w21.cell? ⟨(pb t32P), po t32P, none⟩ = some (.pointer t108P) ∧
 ∃ t110 : Int, w21.cell? ⟨b, 3, none⟩ = some (.int .i64 t110) ∧
 Calls Try.prog 50 #[.pointer t108P, .int .i64 t110] w21 (fun e w22 => ∃ t111A : Option Addr, ∃ t111N : Nat, ∃ t111C : Nat, ∃ t111 : Int, e = .returned (.tuple #[.slice t111A t111N t111C, .int .i64 t111]) ∧
 purlinlaw15_SemaSums.K0 init most R t32P i Nx0 in1 more w22))) (
 purlinlaw15_SemaSums.K0 init most R t32P i Nx0 in1 more w5)))))) (
 R (.bool true) w3)) (
 R (.bool true) w3)

def purlinlaw15_SemaSums.F (init : Int) (most : Int) (callsA : Option Addr) (callsN : Nat) (callsC : Nat) (w : World) (R : Value → World → Prop) : Prop :=
 (255 : Int) ≠ 0 ∧
 IntKind.wrap .i64 (IntKind.wrap .i64 (1 + ((IntKind.wrap .i64 most).tmod 255)) + 1) ≠ 0 ∧
 Calls Try.prog 35 #[.int .i64 ((IntKind.wrap .i64 init).tmod (IntKind.wrap .i64 (IntKind.wrap .i64 (1 + ((IntKind.wrap .i64 most).tmod 255)) + 1))), .int .i64 (IntKind.wrap .i64 (1 + ((IntKind.wrap .i64 most).tmod 255)))] w (fun e w1 => ∃ t32P : Option Addr, ∃ t32 : Int, e = .returned (.tuple #[.pointer t32P, .int .i64 t32]) ∧
 Calls Try.prog 36 #[] w1 (fun e w2 => ∃ t35 : Bool, e = .returned (.bool t35) ∧
 br (!t35) (
 R (.bool false) w2) (
 br (t32 != 0) (
 R (.bool false) w2) (
 br ((t32P : Option Addr).isNone) (
 R (.bool false) w2) (
 ∃ I : Nat → Int → Int → Int → World → Prop, (∃ n, I n 0 0 0 w2) ∧ ∀ (n9 : Nat) (dead : Nat → Value) (w3 : World) (in1 : Int) (more : Int) (i : Int), I n9 in1 more i w3 →
 purlinlaw15_SemaSums.L0 init most callsA callsN R t32P in1 more i w3 (fun x0 x1 x2 w9 => ∃ m, m < n9 ∧ I m x0 x1 x2 w9))))))

theorem purlinlaw15_SemaSums.vc (init : Int) (most : Int) (callsA : Option Addr) (callsN : Nat) (callsC : Nat) (w : World) (R : Value → World → Prop) : fnVC Try.prog purlinlaw15_SemaSums.A Try.f14 [.int .u8 init, .int .u8 most, .slice callsA callsN callsC] w R = purlinlaw15_SemaSums.F init most callsA callsN callsC w R := by kernel_rfl
theorem purlinlaw15_SemaSums.calls (init : Int) (most : Int) (callsA : Option Addr) (callsN : Nat) (callsC : Nat) (w : World) (R : Value → World → Prop) (h : purlinlaw15_SemaSums.F init most callsA callsN callsC w R) : Calls Try.prog 14 #[.int .u8 init, .int .u8 most, .slice callsA callsN callsC] w (Ret R) :=
  calls_of_vc mixed Try.func14 (Eq.mpr (purlinlaw15_SemaSums.vc init most callsA callsN callsC w R) h)

/-! ### purlin/purlinlaw15.SemaLess: function 15 -/
def purlinlaw15_SemaLess.A : Ann where
  sched := fun i => match i with
    | _ => none
  loop := fun i => match i with
    | 5 => some [(6, none), (9, some (.one (.int .i64))), (10, none), (11, none), (12, none), (43, none), (44, none), (45, none), (46, none), (47, none), (48, none), (49, none), (50, none), (51, none), (52, none), (53, none), (54, none), (55, none), (56, none), (57, none), (58, none), (59, none), (60, none), (61, none), (62, none), (63, none), (64, none), (65, none), (66, none), (67, none), (68, none), (69, none), (70, none)]
    | 22 => some [(6, none), (16, some (.one (.int .i64))), (17, none), (18, none), (19, none), (98, none), (99, none), (100, none), (101, none), (102, none), (103, none), (104, none), (105, none), (106, none), (107, none), (108, none), (109, none), (110, none), (111, none), (112, none), (113, none), (114, none), (115, none), (116, none), (117, none), (118, none), (119, none), (120, none), (121, none), (122, none), (123, none), (124, none), (125, none), (126, none), (127, none), (128, none), (129, none), (130, none), (131, none), (132, none), (133, none), (134, none), (135, none), (136, none), (137, none), (138, none)]
    | _ => none

def purlinlaw15_SemaLess.K0 (R : Value → World → Prop) (t24P : Option Addr) (i1 : Int) (w12 : World) (Nx1 : Int → World → Prop) : Prop :=
 Calls Try.prog 38 #[.pointer t24P] w12 (fun e w14 => ∃ t124 : Int, ∃ t1241 : Bool, ∃ t1242 : Int, e = .returned (.tuple #[.int .i64 t124, .bool t1241, .int .i64 t1242]) ∧
 br (t124 != i1) (
 R (.bool false) w14) (
 br (!t1241) (
 R (.bool false) w14) (
 br (t1242 != 0) (
 R (.bool false) w14) (
 Nx1 (IntKind.wrap .i64 (i1 + 1)) w14))))

def purlinlaw15_SemaLess.L1 (untilA : Option Addr) (untilN : Nat) (now : Int) (R : Value → World → Prop) (t24P : Option Addr) (gone : Int) (i1 : Int) (w12 : World) (Nx1 : Int → World → Prop) : Prop :=
 br (decide (i1 < ((untilN : Nat) : Int))) (
 br (i1 == gone) (
 Nx1 (IntKind.wrap .i64 (i1 + 1)) w12) (
 0 ≤ (i1 : Int) ∧ i1 < ((untilN : Nat) : Int) ∧ okP untilA (
 ∃ t111 : Int, w12.cell? ⟨(pb untilA), po untilA + i1.toNat * 1, none⟩ = some (.int .u8 t111) ∧
 br (decide (t111 > 0)) (
 0 ≤ (i1 : Int) ∧ i1 < ((untilN : Nat) : Int) ∧ okP untilA (
 ∃ t117 : Int, w12.cell? ⟨(pb untilA), po untilA + i1.toNat * 1, none⟩ = some (.int .u8 t117) ∧
 br (decide (t117 ≤ now)) (
 Nx1 (IntKind.wrap .i64 (i1 + 1)) w12) (
 purlinlaw15_SemaLess.K0 R t24P i1 w12 Nx1))) (
 purlinlaw15_SemaLess.K0 R t24P i1 w12 Nx1)))) (
 Calls Try.prog 38 #[.pointer t24P] w12 (fun e w15 => ∃ t141 : Int, ∃ t1411 : Bool, ∃ t1412 : Int, e = .returned (.tuple #[.int .i64 t141, .bool t1411, .int .i64 t1412]) ∧
 br (!t1411) (
 br (t1412 == 0) (
 Calls Try.prog 51 #[.pointer t24P] w15 (fun e w16 => ∃ t153 : Int, e = .returned (.int .i64 t153) ∧
 R (.bool (t153 == 1)) w16)) (
 R (.bool false) w15)) (
 R (.bool false) w15)))

def purlinlaw15_SemaLess.K1 (untilA : Option Addr) (untilN : Nat) (now : Int) (R : Value → World → Prop) (t24P : Option Addr) (gone : Int) (w10 : World) : Prop :=
 okP t24P (
 ∃ t90P : Option Addr, w10.cell? ⟨(pb t24P), po t24P, none⟩ = some (.pointer t90P) ∧
 Calls Try.prog 50 #[.pointer t90P, .int .i64 (IntKind.wrap .i64 now)] w10 (fun e w11 => ∃ t93A : Option Addr, ∃ t93N : Nat, ∃ t93C : Nat, ∃ t93 : Int, e = .returned (.tuple #[.slice t93A t93N t93C, .int .i64 t93]) ∧
 br (t93 != 0) (
 R (.bool false) w11) (
 ∃ I : Nat → Int → World → Prop, (∃ n, I n 0 w11) ∧ ∀ (n9 : Nat) (dead : Nat → Value) (w12 : World) (i1 : Int), I n9 i1 w12 →
 purlinlaw15_SemaLess.L1 untilA untilN now R t24P gone i1 w12 (fun x0 w9 => ∃ m, m < n9 ∧ I m x0 w9))))

def purlinlaw15_SemaLess.L0 (untilA : Option Addr) (untilN : Nat) (drop : Int) (now : Int) (R : Value → World → Prop) (t24P : Option Addr) (i : Int) (w6 : World) (Nx0 : Int → World → Prop) : Prop :=
 br (decide (i < ((untilN : Nat) : Int))) (
 0 ≤ (i : Int) ∧ i < ((untilN : Nat) : Int) ∧ okP untilA (
 ∃ t52 : Int, w6.cell? ⟨(pb untilA), po untilA + i.toNat * 1, none⟩ = some (.int .u8 t52) ∧
 br (decide (t52 > 0)) (
 0 ≤ (i : Int) ∧ i < ((untilN : Nat) : Int) ∧ okP untilA (
 ∃ t57 : Int, w6.cell? ⟨(pb untilA), po untilA + i.toNat * 1, none⟩ = some (.int .u8 t57) ∧
 Calls Try.prog 37 #[.pointer t24P, .int .i64 i, .int .i64 5, .int .i64 (IntKind.wrap .i64 t57)] w6 (fun e w8 => ∃ t63 : Bool, ∃ t631 : Int, e = .returned (.tuple #[.bool t63, .int .i64 t631]) ∧
 br t63 (
 R (.bool false) w8) (
 br (t631 != 0) (
 R (.bool false) w8) (
 Nx0 (IntKind.wrap .i64 (i + 1)) w8))))) (
 Calls Try.prog 37 #[.pointer t24P, .int .i64 i, .int .i64 5, .int .i64 (-1)] w6 (fun e w8 => ∃ t63 : Bool, ∃ t631 : Int, e = .returned (.tuple #[.bool t63, .int .i64 t631]) ∧
 br t63 (
 R (.bool false) w8) (
 br (t631 != 0) (
 R (.bool false) w8) (
 Nx0 (IntKind.wrap .i64 (i + 1)) w8)))))) (
 br (decide (((untilN : Nat) : Int) > 0)) (
 ((untilN : Nat) : Int) ≠ 0 ∧
 okP t24P (
 ∃ t82P : Option Addr, w6.cell? ⟨(pb t24P), po t24P, none⟩ = some (.pointer t82P) ∧
 Calls Try.prog 49 #[.pointer t82P, .int .i64 ((IntKind.wrap .i64 drop).tmod ((untilN : Nat) : Int))] w6 (fun e w9 => ∃ t84 : Int, e = .returned (.int .i64 t84) ∧
 br (t84 != 0) (
 R (.bool false) w9) (
 purlinlaw15_SemaLess.K1 untilA untilN now R t24P ((IntKind.wrap .i64 drop).tmod ((untilN : Nat) : Int)) w9)))) (
 purlinlaw15_SemaLess.K1 untilA untilN now R t24P (-1) w6))

def purlinlaw15_SemaLess.F (untilA : Option Addr) (untilN : Nat) (untilC : Nat) (drop : Int) (now : Int) (w : World) (R : Value → World → Prop) : Prop :=
 Calls Try.prog 35 #[.int .i64 0, .int .i64 255] w (fun e w1 => ∃ t24P : Option Addr, ∃ t24 : Int, e = .returned (.tuple #[.pointer t24P, .int .i64 t24]) ∧
 Calls Try.prog 36 #[] w1 (fun e w2 => ∃ t27 : Bool, e = .returned (.bool t27) ∧
 br (!t27) (
 Calls Try.prog 36 #[] w2 (fun e w3 => ∃ t42 : Bool, e = .returned (.bool t42) ∧
 R (.bool t42) w3)) (
 br (t24 != 0) (
 Calls Try.prog 36 #[] w2 (fun e w3 => ∃ t42 : Bool, e = .returned (.bool t42) ∧
 R (.bool t42) w3)) (
 br ((t24P : Option Addr).isNone) (
 Calls Try.prog 36 #[] w2 (fun e w3 => ∃ t42 : Bool, e = .returned (.bool t42) ∧
 R (.bool t42) w3)) (
 br (decide (((untilN : Nat) : Int) > 40)) (
 Calls Try.prog 36 #[] w2 (fun e w5 => ∃ t421 : Bool, e = .returned (.bool t421) ∧
 R (.bool t421) w5)) (
 ∃ I : Nat → Int → World → Prop, (∃ n, I n 0 w2) ∧ ∀ (n9 : Nat) (dead : Nat → Value) (w6 : World) (i : Int), I n9 i w6 →
 purlinlaw15_SemaLess.L0 untilA untilN drop now R t24P i w6 (fun x0 w9 => ∃ m, m < n9 ∧ I m x0 w9)))))))

theorem purlinlaw15_SemaLess.vc (untilA : Option Addr) (untilN : Nat) (untilC : Nat) (drop : Int) (now : Int) (w : World) (R : Value → World → Prop) : fnVC Try.prog purlinlaw15_SemaLess.A Try.f15 [.slice untilA untilN untilC, .int .u8 drop, .int .u8 now] w R = purlinlaw15_SemaLess.F untilA untilN untilC drop now w R := by kernel_rfl
theorem purlinlaw15_SemaLess.calls (untilA : Option Addr) (untilN : Nat) (untilC : Nat) (drop : Int) (now : Int) (w : World) (R : Value → World → Prop) (h : purlinlaw15_SemaLess.F untilA untilN untilC drop now w R) : Calls Try.prog 15 #[.slice untilA untilN untilC, .int .u8 drop, .int .u8 now] w (Ret R) :=
  calls_of_vc mixed Try.func15 (Eq.mpr (purlinlaw15_SemaLess.vc untilA untilN untilC drop now w R) h)

end Go.Proofs.Ytecacohkkdhphaa
