/- Printed by vcgen.py: of each function of this text its weakest precondition as a formula, and that it is one. Conditions: none. -/
import Derived.Test.YtecacohkkdhphaaVcCode
import Derived.Test.YtecacohkkdhphaaVcMem
import Derived.Test.YtecacohkkdhphaaChecked
namespace Go.Proofs.Ytecacohkkdhphaa
open Go.Vc
set_option linter.unusedVariables false
set_option maxRecDepth 100000

/-! ### purlin/purlinlaw16.awake: function 17 -/
def purlinlaw16_awake.A : Ann where
  sched := fun i => match i with
    | _ => none
  loop := fun i => match i with
    | _ => none

def purlinlaw16_awake.F (w : World) (R : Value → World → Prop) : Prop :=
 Calls Try.prog 16 #[.bool false] w (fun e w1 => ∃ t12P : Option Addr, e = .returned (.pointer t12P) ∧
 br ((t12P : Option Addr).isNone) (
 R (.bool false) w1) (
 Calls Try.prog 18 #[.pointer t12P, .int .i64 1, .int .i64 5, .int .i64 (-1)] w1 (fun e w2 => ∃ t17 : Bool, ∃ t171 : Int, e = .returned (.tuple #[.bool t17, .int .i64 t171]) ∧
 Calls Try.prog 18 #[.pointer t12P, .int .i64 2, .int .i64 9, .int .i64 (-1)] w2 (fun e w3 => ∃ t22 : Bool, ∃ t221 : Int, e = .returned (.tuple #[.bool t22, .int .i64 t221]) ∧
 Calls Try.prog 19 #[.pointer t12P] w3 (fun e w4 => ∃ t26A : Option Addr, ∃ t26N : Nat, ∃ t26C : Nat, e = .returned (.slice t26A t26N t26C) ∧
 Calls Try.prog 18 #[.pointer t12P, .int .i64 3, .int .i64 1, .int .i64 0] w4 (fun e w5 => ∃ t29 : Bool, ∃ t291 : Int, e = .returned (.tuple #[.bool t29, .int .i64 t291]) ∧
 Calls Try.prog 44 #[.pointer t12P] w5 (fun e w6 => ∃ t33 : Bool, e = .returned (.bool t33) ∧
 Calls Try.prog 41 #[.pointer t12P] w6 (fun e w7 => e = .returned (.tuple #[]) ∧
 Calls Try.prog 18 #[.pointer t12P, .int .i64 3, .int .i64 1, .int .i64 0] w7 (fun e w8 => ∃ t38 : Bool, ∃ t381 : Int, e = .returned (.tuple #[.bool t38, .int .i64 t381]) ∧
 br (!t17) (
 br (t171 == 0) (
 br (!t22) (
 br (t221 == 0) (
 newBlk w8 (.cells #[.int .i64 2, .int .i64 1] 3 (0, 0)) fun b w9 =>
 Calls Try.prog 29 #[.slice t26A t26N t26C, .slice (some ⟨b, 0, none⟩) 2 2] w9 (fun e w10 => ∃ t58 : Bool, e = .returned (.bool t58) ∧
 br t58 (
 br t29 (
 br (t291 == 0) (
 br t33 (
 Calls Try.prog 44 #[.pointer t12P] w10 (fun e w11 => ∃ t72 : Bool, e = .returned (.bool t72) ∧
 br (!t72) (
 br (!t38) (
 br (t381 == 0) (
 okP t12P (
 ∃ t87V : Value, w11.cell? ⟨(pb t12P), po t12P, none⟩ = some (t87V) ∧
 ∃ (f : FuncId) (args : Array Value) (w13 : World), (callMethod (t87V) "List" #[]).run Try.prog w11 = .ok (.enter f args) w13 ∧
 Calls Try.prog f args w13 (fun e w12 => ∃ t88A : Option Addr, ∃ t88N : Nat, ∃ t88C : Nat, e = .returned (.slice t88A t88N t88C) ∧
 R (.bool (((t88N : Nat) : Int) == 0)) w12))) (
 R (.bool false) w11)) (
 R (.bool false) w11)) (
 R (.bool false) w11))) (
 R (.bool false) w10)) (
 R (.bool false) w10)) (
 R (.bool false) w10)) (
 R (.bool false) w10))) (
 R (.bool false) w8)) (
 R (.bool false) w8)) (
 R (.bool false) w8)) (
 R (.bool false) w8))))))))))

theorem purlinlaw16_awake.vc (w : World) (R : Value → World → Prop) : fnVC Try.prog purlinlaw16_awake.A Try.f17 [] w R = purlinlaw16_awake.F w R := by kernel_rfl
theorem purlinlaw16_awake.calls (w : World) (R : Value → World → Prop) (h : purlinlaw16_awake.F w R) : Calls Try.prog 17 #[] w (Ret R) :=
  calls_of_vc mixed Try.func17 (Eq.mpr (purlinlaw16_awake.vc w R) h)

/-! ### purlin/purlinlaw16.EventAll: function 3 -/
def purlinlaw16_EventAll.A : Ann where
  sched := fun i => match i with
    | 16 => some (none, .still 0 false 486 <| .still 1 false 481 <| .still 2 false 483 <| .still 3 false 487 <| .still 4 false 495 <| .still 5 false 607 <| .still 6 false 575 <| .still 7 false 639 <| .still 8 false 767 <| .still 9 false 511 <| .still 10 false 1023 <| .done)
    | 19 => some (none, .still 0 false 994 <| .still 1 false 993 <| .still 2 false 995 <| .still 3 false 999 <| .still 4 false 1007 <| .still 5 false 1119 <| .still 6 false 1087 <| .still 7 false 1151 <| .still 8 false 1279 <| .still 9 false 1535 <| .still 10 false 1023 <| .still 11 false 2047 <| .done)
    | _ => none
  loop := fun i => match i with
    | 5 => some [(2, none), (4, some (.one (.int .i64))), (5, none), (6, none), (26, none), (27, none), (28, none), (29, none), (30, none), (31, none), (32, none), (33, none), (34, none), (35, none), (36, none), (37, none), (38, none), (39, none), (40, none), (41, none), (42, none), (43, none), (44, none), (45, none), (46, none), (47, none), (48, none)]
    | 14 => some [(2, none), (8, some (.one (.int .i64))), (9, none), (10, none), (11, none), (12, none), (56, none), (57, none), (58, none), (59, none), (60, none), (61, none), (62, none), (63, none), (64, none), (65, none), (66, none), (67, none), (68, none), (69, none), (70, none), (71, none), (72, none), (73, none), (74, none), (75, none), (76, none), (77, none), (78, none), (79, none), (80, none), (81, none), (82, none), (83, none), (84, none), (85, none), (86, none), (87, none), (88, none), (89, none), (90, none), (91, none), (92, none), (93, none), (94, none), (95, none), (96, none), (97, none), (98, none), (99, none), (100, none), (101, none), (102, none), (103, none), (104, none), (105, none), (106, none), (107, none), (108, none), (109, none), (110, none), (111, none)]
    | _ => none

def purlinlaw16_EventAll.L1 (priosA : Option Addr) (priosN : Nat) (R : Value → World → Prop) (t13P : Option Addr) (t50A : Option Addr) (t50N : Nat) (i1 : Int) (w9 : World) (Nx1 : Int → World → Prop) : Prop :=
 br (decide (i1 < ((t50N : Nat) : Int))) (
 drawC w9 fun w10 =>
 0 ≤ (IntKind.wrap .i64 (i1 - 1) : Int) ∧ IntKind.wrap .i64 (i1 - 1) < ((t50N : Nat) : Int) ∧ okP t50A (
 ∃ t66 : Int, w10.cell? ⟨(pb t50A), po t50A + (IntKind.wrap .i64 (i1 - 1)).toNat * 1, none⟩ = some (.int .i64 t66) ∧
 0 ≤ (i1 : Int) ∧ i1 < ((t50N : Nat) : Int) ∧ okP t50A (
 ∃ t70 : Int, w10.cell? ⟨(pb t50A), po t50A + i1.toNat * 1, none⟩ = some (.int .i64 t70) ∧
 br (decide (t66 < 0)) (
 R (.bool false) w10) (
 br (decide (t70 < 0)) (
 R (.bool false) w10) (
 br (decide (t66 ≥ ((priosN : Nat) : Int))) (
 R (.bool false) w10) (
 br (decide (t70 ≥ ((priosN : Nat) : Int))) (
 R (.bool false) w10) (
 drawC w10 fun w11 =>
 0 ≤ (t66 : Int) ∧ t66 < ((priosN : Nat) : Int) ∧ okP priosA (
 ∃ t92 : Int, w11.cell? ⟨(pb priosA), po priosA + t66.toNat * 1, none⟩ = some (.int .u8 t92) ∧
 0 ≤ (t70 : Int) ∧ t70 < ((priosN : Nat) : Int) ∧ okP priosA (
 ∃ t97 : Int, w11.cell? ⟨(pb priosA), po priosA + t70.toNat * 1, none⟩ = some (.int .u8 t97) ∧
 br (decide (IntKind.wrap .u8 (((BitVec.ofInt 8 t92 &&& BitVec.ofInt 8 63).toNat : Nat)) < IntKind.wrap .u8 (((BitVec.ofInt 8 t97 &&& BitVec.ofInt 8 63).toNat : Nat)))) (
 R (.bool false) w11) (
 br (IntKind.wrap .u8 (((BitVec.ofInt 8 t92 &&& BitVec.ofInt 8 63).toNat : Nat)) == IntKind.wrap .u8 (((BitVec.ofInt 8 t97 &&& BitVec.ofInt 8 63).toNat : Nat))) (
 br (decide (t66 ≥ t70)) (
 R (.bool false) w11) (
 Nx1 (IntKind.wrap .i64 (i1 + 1)) w11)) (
 Nx1 (IntKind.wrap .i64 (i1 + 1)) w11))))))))))) (
 okP t13P (
 ∃ t115V : Value, w9.cell? ⟨(pb t13P), po t13P, none⟩ = some (t115V) ∧
 ∃ (f : FuncId) (args : Array Value) (w14 : World), (callMethod (t115V) "List" #[]).run Try.prog w9 = .ok (.enter f args) w14 ∧
 Calls Try.prog f args w14 (fun e w12 => ∃ t116A : Option Addr, ∃ t116N : Nat, ∃ t116C : Nat, e = .returned (.slice t116A t116N t116C) ∧
 br (((t116N : Nat) : Int) == 0) (
 Calls Try.prog 19 #[.pointer t13P] w12 (fun e w13 => ∃ t121A : Option Addr, ∃ t121N : Nat, ∃ t121C : Nat, e = .returned (.slice t121A t121N t121C) ∧
 R (.bool (((t121N : Nat) : Int) == 0)) w13)) (
 R (.bool false) w12))))

def purlinlaw16_EventAll.L0 (priosA : Option Addr) (priosN : Nat) (R : Value → World → Prop) (t13P : Option Addr) (dead : Nat → Value) (i : Int) (w6 : World) (Nx0 : Int → World → Prop) : Prop :=
 br (decide (i < ((priosN : Nat) : Int))) (
 0 ≤ (i : Int) ∧ i < ((priosN : Nat) : Int) ∧ okP priosA (
 ∃ t38 : Int, w6.cell? ⟨(pb priosA), po priosA + i.toNat * 1, none⟩ = some (.int .u8 t38) ∧
 Calls Try.prog 18 #[.pointer t13P, .int .i64 i, .int .i64 (IntKind.wrap .i64 (IntKind.wrap .u8 (((BitVec.ofInt 8 t38 &&& BitVec.ofInt 8 63).toNat : Nat)))), .int .i64 (-1)] w6 (fun e w7 => ∃ t41 : Bool, ∃ t411 : Int, e = .returned (.tuple #[.bool t41, .int .i64 t411]) ∧
 br t41 (
 R (.bool false) w7) (
 br (t411 != 0) (
 R (.bool false) w7) (
 Nx0 (IntKind.wrap .i64 (i + 1)) w7))))) (
 Calls Try.prog 19 #[.pointer t13P] w6 (fun e w8 => ∃ t50A : Option Addr, ∃ t50N : Nat, ∃ t50C : Nat, e = .returned (.slice t50A t50N t50C) ∧
 br (((t50N : Nat) : Int) != ((priosN : Nat) : Int)) (
 R (.bool false) w8) (
 ∃ I : Nat → Int → World → Prop, (∃ n, I n 1 w8) ∧ ∀ (n9 : Nat) (dead : Nat → Value) (w9 : World) (i1 : Int), I n9 i1 w9 →
 purlinlaw16_EventAll.L1 priosA priosN R t13P t50A t50N i1 w9 (fun x0 w9 => ∃ m, m < n9 ∧ I m x0 w9))))

def purlinlaw16_EventAll.F (priosA : Option Addr) (priosN : Nat) (priosC : Nat) (w : World) (R : Value → World → Prop) : Prop :=
 Calls Try.prog 16 #[.bool false] w (fun e w1 => ∃ t13P : Option Addr, e = .returned (.pointer t13P) ∧
 Calls Try.prog 17 #[] w1 (fun e w2 => ∃ t14 : Bool, e = .returned (.bool t14) ∧
 br (!t14) (
 Calls Try.prog 17 #[] w2 (fun e w3 => ∃ t25 : Bool, e = .returned (.bool t25) ∧
 R (.bool t25) w3)) (
 br ((t13P : Option Addr).isNone) (
 Calls Try.prog 17 #[] w2 (fun e w3 => ∃ t25 : Bool, e = .returned (.bool t25) ∧
 R (.bool t25) w3)) (
 br (decide (((priosN : Nat) : Int) > 100)) (
 Calls Try.prog 17 #[] w2 (fun e w5 => ∃ t251 : Bool, e = .returned (.bool t251) ∧
 R (.bool t251) w5)) (
 ∃ I : Nat → Int → World → Prop, (∃ n, I n 0 w2) ∧ ∀ (n9 : Nat) (dead : Nat → Value) (w6 : World) (i : Int), I n9 i w6 →
 purlinlaw16_EventAll.L0 priosA priosN R t13P dead i w6 (fun x0 w9 => ∃ m, m < n9 ∧ I m x0 w9))))))

theorem purlinlaw16_EventAll.vc (priosA : Option Addr) (priosN : Nat) (priosC : Nat) (w : World) (R : Value → World → Prop) : fnVC Try.prog purlinlaw16_EventAll.A Try.f3 [.slice priosA priosN priosC] w R = purlinlaw16_EventAll.F priosA priosN priosC w R := by kernel_rfl
theorem purlinlaw16_EventAll.calls (priosA : Option Addr) (priosN : Nat) (priosC : Nat) (w : World) (R : Value → World → Prop) (h : purlinlaw16_EventAll.F priosA priosN priosC w R) : Calls Try.prog 3 #[.slice priosA priosN priosC] w (Ret R) :=
  calls_of_vc mixed Try.func3 (Eq.mpr (purlinlaw16_EventAll.vc priosA priosN priosC w R) h)

/-! ### purlin/purlinlaw16.EventPlays: function 10 -/
def purlinlaw16_EventPlays.A : Ann where
  sched := fun i => match i with
    | 27 => some (none, .still 0 false 176 <| .still 1 false 177 <| .still 2 false 179 <| .still 3 false 183 <| .still 4 false 143 <| .still 5 false 159 <| .still 7 true 127 <| .eff 6 <| .still 8 false 255 <| .done)
    | 32 => some (none, .still 0 false 48 <| .still 1 false 49 <| .still 2 false 51 <| .still 3 false 55 <| .still 4 false 15 <| .still 5 false 31 <| .eff 6 <| .still 7 false 127 <| .still 8 false 767 <| .still 9 false 1535 <| .still 10 false 1023 <| .still 11 false 2047 <| .done)
    | 35 => some ((some 24576), .still 0 false 12 <| .still 2 true 3 <| .still 3 true 7 <| .eff 1 <| .still 4 false 15 <| .still 5 false 31 <| .still 6 false 6207 <| .still 7 false 6271 <| .still 8 false 6399 <| .still 9 false 6655 <| .still 11 true 2047 <| .still 12 true 4095 <| .eff 10 <| .eff 13 <| .eff 14 <| .still 15 false 32767 <| .still 16 false 65535 <| .done)
    | _ => none
  loop := fun i => match i with
    | 6 => some [(4, none), (7, some (.one (.int .i64))), (8, none), (9, none), (10, none), (11, none), (12, none), (13, none), (14, none), (15, none), (16, none), (17, none), (18, none), (19, none), (20, none), (21, none), (22, none), (33, none), (34, none), (35, none), (36, none), (37, none), (38, none), (39, none), (40, none), (41, none), (42, none), (43, none), (44, none), (45, none), (46, none), (47, none), (48, none), (49, none), (50, none), (51, none), (52, none), (53, none), (54, none), (55, none), (56, none), (57, none), (58, none), (59, none), (60, none), (61, none), (62, none), (63, none), (64, none), (65, none), (66, none), (67, none), (68, none), (69, none), (70, none), (71, none), (72, none), (73, none), (74, none), (75, none), (76, none), (77, none), (78, none), (79, none), (80, none), (81, none), (82, none), (83, none), (84, none), (85, none), (86, none), (87, none), (88, none), (89, none), (90, none), (91, none), (92, none), (93, none), (94, none), (95, none), (96, none), (97, none), (98, none), (99, none), (100, none), (101, none), (102, none), (103, none), (104, none), (105, none), (106, none), (107, none), (108, none), (109, none), (110, none), (111, none), (112, none), (113, none), (114, none), (115, none), (116, none), (117, none), (118, none), (119, none), (120, none), (121, none), (122, none), (123, none), (124, none), (125, none), (126, none), (127, none), (128, none), (129, none), (130, none), (131, none), (132, none), (133, none), (134, none), (135, none), (136, none), (137, none), (138, none), (139, none), (140, none), (141, none), (142, none), (143, none), (144, none), (145, none), (146, none), (147, none), (148, none), (149, none), (150, none), (151, none), (152, none), (153, none), (154, none), (155, none), (156, none), (157, none), (158, none), (159, none), (160, none), (161, none), (162, none), (163, none), (164, none), (165, none), (166, none), (167, none), (168, none), (169, none), (170, none)]
    | _ => none

def purlinlaw16_EventPlays.K0 (R : Value → World → Prop) (t24P : Option Addr) (b : Nat) (i : Int) (Nx0 : Int → World → Prop) (w13 : World) : Prop :=
 ∃ S : World → Prop, S w13.drew ∧ drawC w13 fun w14 =>
 ∃ t157 : Bool, (∀ w9 : World, S w9 → w9.cell? ⟨b, 2, none⟩ = some (.bool t157)) ∧
 Calls Try.prog 44 #[.pointer t24P] w14 (fun e w15 => ∃ t155 : Bool, e = .returned (.bool t155) ∧
 S w15 ∧ br (!(t155 == t157)) (
 R (.bool false) w15) (
 okP t24P (
 ∃ t163V : Value, w15.cell? ⟨(pb t24P), po t24P, none⟩ = some (t163V) ∧
 ∃ t166A : Option Addr, ∃ t166N : Nat, ∃ t166C : Nat, (∀ w9 : World, S w9 → w9.cell? ⟨b, 0, none⟩ = some (.slice t166A t166N t166C)) ∧ ∃ t166 : Int, (∀ w9 : World, S w9 → w9.cell? ⟨b, 1, none⟩ = some (.int .i64 t166)) ∧ 
 ∃ (f : FuncId) (args : Array Value) (w20 : World), (callMethod (t163V) "List" #[]).run Try.prog w15 = .ok (.enter f args) w20 ∧
 Calls Try.prog f args w20 (fun e w17 => ∃ t164A : Option Addr, ∃ t164N : Nat, ∃ t164C : Nat, e = .returned (.slice t164A t164N t164C) ∧
 S w17 ∧ Calls Try.prog 45 #[.agg #[.slice t166A t166N t166C, .int .i64 t166]] w17 (fun e w18 => ∃ t167A : Option Addr, ∃ t167N : Nat, ∃ t167C : Nat, e = .returned (.slice t167A t167N t167C) ∧
 Calls Try.prog 29 #[.slice t164A t164N t164C, .slice t167A t167N t167C] w18 (fun e w19 => ∃ t168 : Bool, e = .returned (.bool t168) ∧
 br (!t168) (
 R (.bool false) w19) (
 Nx0 (IntKind.wrap .i64 (i + 1)) w19)))))))

def purlinlaw16_EventPlays.L0 (callsA : Option Addr) (callsN : Nat) (R : Value → World → Prop) (t24P : Option Addr) (b : Nat) (i : Int) (w5 : World) (Nx0 : Int → World → Prop) : Prop :=
 br (decide (i < ((callsN : Nat) : Int))) (
 br (decide (i < 60)) (
 0 ≤ (i : Int) ∧ i < ((callsN : Nat) : Int) ∧ okP callsA (
 ∃ t46 : Int, w5.cell? ⟨(pb callsA), po callsA + i.toNat * 4, none⟩ = some (.int .i64 t46) ∧ ∃ t461 : Int, w5.cell? ⟨(pb callsA), po callsA + i.toNat * 4 + 1, none⟩ = some (.int .i64 t461) ∧ ∃ t462 : Int, w5.cell? ⟨(pb callsA), po callsA + i.toNat * 4 + 2, none⟩ = some (.int .i64 t462) ∧ ∃ t463 : Int, w5.cell? ⟨(pb callsA), po callsA + i.toNat * 4 + 3, none⟩ = some (.int .i64 t463) ∧ 
 newBlk w5 (.cells #[.int .i64 0, .int .i64 0, .int .i64 0, .int .i64 0] 81 (0, 0)) fun b1 w6 =>
 storeC w6 b1 0 [.int .i64 t46, .int .i64 t461, .int .i64 t462, .int .i64 t463] fun w7 =>
 ∃ t48 : Int, w7.cell? ⟨b1, 0, none⟩ = some (.int .i64 t48) ∧
 br (t48 == 0) (
 ∃ t52A : Option Addr, ∃ t52N : Nat, ∃ t52C : Nat, w7.cell? ⟨b, 0, none⟩ = some (.slice t52A t52N t52C) ∧ ∃ t52 : Int, w7.cell? ⟨b, 1, none⟩ = some (.int .i64 t52) ∧ ∃ t521 : Bool, w7.cell? ⟨b, 2, none⟩ = some (.bool t521) ∧ 
 ∃ t54 : Int, w7.cell? ⟨b1, 1, none⟩ = some (.int .i64 t54) ∧
 ∃ t56 : Int, w7.cell? ⟨b1, 2, none⟩ = some (.int .i64 t56) ∧
 ∃ t58 : Int, w7.cell? ⟨b1, 3, none⟩ = some (.int .i64 t58) ∧
 Calls Try.prog 39 #[.agg #[.slice t52A t52N t52C, .int .i64 t52, .bool t521], .int .i64 t54, .int .i64 t56, .int .i64 t58] w7 (fun e w8 => ∃ t59A : Option Addr, ∃ t59N : Nat, ∃ t59C : Nat, ∃ t59 : Int, ∃ t591 : Bool, ∃ t592 : Bool, ∃ t593 : Int, e = .returned (.tuple #[.agg #[.slice t59A t59N t59C, .int .i64 t59, .bool t591], .bool t592, .int .i64 t593]) ∧
 newBlk w8 (.cells #[.slice none 0 0, .int .i64 0, .bool false] 79 (0, 0)) fun b2 w9 =>
 storeC w9 b2 0 [.slice t59A t59N t59C, .int .i64 t59, .bool t591] fun w10 =>
 ∃ t63A : Option Addr, ∃ t63N : Nat, ∃ t63C : Nat, w10.cell? ⟨b2, 0, none⟩ = some (.slice t63A t63N t63C) ∧ ∃ t63 : Int, w10.cell? ⟨b2, 1, none⟩ = some (.int .i64 t63) ∧ ∃ t631 : Bool, w10.cell? ⟨b2, 2, none⟩ = some (.bool t631) ∧ 
 storeC w10 b 0 [.slice t63A t63N t63C, .int .i64 t63, .bool t631] fun w11 =>
 ∃ t67 : Int, w11.cell? ⟨b1, 1, none⟩ = some (.int .i64 t67) ∧
 ∃ t69 : Int, w11.cell? ⟨b1, 2, none⟩ = some (.int .i64 t69) ∧
 ∃ t71 : Int, w11.cell? ⟨b1, 3, none⟩ = some (.int .i64 t71) ∧
 Calls Try.prog 18 #[.pointer t24P, .int .i64 t67, .int .i64 t69, .int .i64 t71] w11 (fun e w12 => ∃ t72 : Bool, ∃ t721 : Int, e = .returned (.tuple #[.bool t72, .int .i64 t721]) ∧
 br (!(t72 == t592)) (
 R (.bool false) w12) (
 br (t721 != t593) (
 R (.bool false) w12) (
 purlinlaw16_EventPlays.K0 R t24P b i Nx0 w12))))) (
 br (t48 == 1) (
 ∃ t86A : Option Addr, ∃ t86N : Nat, ∃ t86C : Nat, w7.cell? ⟨b, 0, none⟩ = some (.slice t86A t86N t86C) ∧ ∃ t86 : Int, w7.cell? ⟨b, 1, none⟩ = some (.int .i64 t86) ∧ ∃ t861 : Bool, w7.cell? ⟨b, 2, none⟩ = some (.bool t861) ∧ 
 Calls Try.prog 40 #[.agg #[.slice t86A t86N t86C, .int .i64 t86, .bool t861]] w7 (fun e w21 => ∃ t87A : Option Addr, ∃ t87N : Nat, ∃ t87C : Nat, ∃ t87 : Int, ∃ t871 : Bool, ∃ t87A1 : Option Addr, ∃ t87N1 : Nat, ∃ t87C1 : Nat, e = .returned (.tuple #[.agg #[.slice t87A t87N t87C, .int .i64 t87, .bool t871], .slice t87A1 t87N1 t87C1]) ∧
 newBlk w21 (.cells #[.slice none 0 0, .int .i64 0, .bool false] 79 (0, 0)) fun b3 w22 =>
 storeC w22 b3 0 [.slice t87A t87N t87C, .int .i64 t87, .bool t871] fun w23 =>
 ∃ t90A : Option Addr, ∃ t90N : Nat, ∃ t90C : Nat, w23.cell? ⟨b3, 0, none⟩ = some (.slice t90A t90N t90C) ∧ ∃ t90 : Int, w23.cell? ⟨b3, 1, none⟩ = some (.int .i64 t90) ∧ ∃ t901 : Bool, w23.cell? ⟨b3, 2, none⟩ = some (.bool t901) ∧ 
 storeC w23 b 0 [.slice t90A t90N t90C, .int .i64 t90, .bool t901] fun w24 =>
 Calls Try.prog 19 #[.pointer t24P] w24 (fun e w25 => ∃ t92A : Option Addr, ∃ t92N : Nat, ∃ t92C : Nat, e = .returned (.slice t92A t92N t92C) ∧
 Calls Try.prog 29 #[.slice t92A t92N t92C, .slice t87A1 t87N1 t87C1] w25 (fun e w26 => ∃ t94 : Bool, e = .returned (.bool t94) ∧
 br (!t94) (
 R (.bool false) w26) (
 purlinlaw16_EventPlays.K0 R t24P b i Nx0 w26))))) (
 br (t48 == 2) (
 storeC w7 b 2 [.bool false] fun w27 =>
 Calls Try.prog 41 #[.pointer t24P] w27 (fun e w28 => e = .returned (.tuple #[]) ∧
 purlinlaw16_EventPlays.K0 R t24P b i Nx0 w28)) (
 br (t48 == 3) (
 ∃ t105A : Option Addr, ∃ t105N : Nat, ∃ t105C : Nat, w7.cell? ⟨b, 0, none⟩ = some (.slice t105A t105N t105C) ∧ ∃ t105 : Int, w7.cell? ⟨b, 1, none⟩ = some (.int .i64 t105) ∧ 
 ∃ t107 : Int, w7.cell? ⟨b1, 1, none⟩ = some (.int .i64 t107) ∧
 Calls Try.prog 42 #[.agg #[.slice t105A t105N t105C, .int .i64 t105], .int .i64 t107] w7 (fun e w29 => ∃ t108A : Option Addr, ∃ t108N : Nat, ∃ t108C : Nat, ∃ t108 : Int, ∃ t1081 : Int, e = .returned (.tuple #[.agg #[.slice t108A t108N t108C, .int .i64 t108], .int .i64 t1081]) ∧
 newBlk w29 (.cells #[.slice none 0 0, .int .i64 0] 77 (0, 0)) fun b4 w30 =>
 storeC w30 b4 0 [.slice t108A t108N t108C, .int .i64 t108] fun w31 =>
 ∃ t111A : Option Addr, ∃ t111N : Nat, ∃ t111C : Nat, w31.cell? ⟨b4, 0, none⟩ = some (.slice t111A t111N t111C) ∧ ∃ t111 : Int, w31.cell? ⟨b4, 1, none⟩ = some (.int .i64 t111) ∧ 
 storeC w31 b 0 [.slice t111A t111N t111C, .int .i64 t111] fun w32 =>
 drawC w32 fun w33 =>
 okP t24P (
 ∃ t116V : Value, w33.cell? ⟨(pb t24P), po t24P, none⟩ = some (t116V) ∧
 ∃ t118 : Int, w33.cell? ⟨b1, 1, none⟩ = some (.int .i64 t118) ∧
 ∃ (f1 : FuncId) (args1 : Array Value) (w35 : World), (callMethod (t116V) "Drop" #[.int .i64 t118]).run Try.prog w33 = .ok (.enter f1 args1) w35 ∧
 Calls Try.prog f1 args1 w35 (fun e w34 => ∃ t119 : Int, e = .returned (.int .i64 t119) ∧
 br (t119 != t1081) (
 R (.bool false) w34) (
 purlinlaw16_EventPlays.K0 R t24P b i Nx0 w34))))) (
 br (t48 == 4) (
 ∃ t126A : Option Addr, ∃ t126N : Nat, ∃ t126C : Nat, w7.cell? ⟨b, 0, none⟩ = some (.slice t126A t126N t126C) ∧ ∃ t126 : Int, w7.cell? ⟨b, 1, none⟩ = some (.int .i64 t126) ∧ 
 ∃ t128 : Int, w7.cell? ⟨b1, 3, none⟩ = some (.int .i64 t128) ∧
 Calls Try.prog 43 #[.agg #[.slice t126A t126N t126C, .int .i64 t126], .int .i64 t128] w7 (fun e w36 => ∃ t129A : Option Addr, ∃ t129N : Nat, ∃ t129C : Nat, ∃ t129 : Int, ∃ t129A1 : Option Addr, ∃ t129N1 : Nat, ∃ t129C1 : Nat, ∃ t1291 : Int, e = .returned (.tuple #[.agg #[.slice t129A t129N t129C, .int .i64 t129], .slice t129A1 t129N1 t129C1, .int .i64 t1291]) ∧
 newBlk w36 (.cells #[.slice none 0 0, .int .i64 0] 77 (0, 0)) fun b5 w37 =>
 storeC w37 b5 0 [.slice t129A t129N t129C, .int .i64 t129] fun w38 =>
 ∃ t133A : Option Addr, ∃ t133N : Nat, ∃ t133C : Nat, w38.cell? ⟨b5, 0, none⟩ = some (.slice t133A t133N t133C) ∧ ∃ t133 : Int, w38.cell? ⟨b5, 1, none⟩ = some (.int .i64 t133) ∧ 
 storeC w38 b 0 [.slice t133A t133N t133C, .int .i64 t133] fun w39 =>
 drawC w39 fun w40 =>
 okP t24P (
 ∃ t139V : Value, w40.cell? ⟨(pb t24P), po t24P, none⟩ = some (t139V) ∧
 ∃ t141 : Int, w40.cell? ⟨b1, 3, none⟩ = some (.int .i64 t141) ∧
 ∃ (f2 : FuncId) (args2 : Array Value) (w44 : World), (callMethod (t139V) "Expire" #[.int .i64 t141]).run Try.prog w40 = .ok (.enter f2 args2) w44 ∧
 Calls Try.prog f2 args2 w44 (fun e w41 => ∃ t142A : Option Addr, ∃ t142N : Nat, ∃ t142C : Nat, ∃ t142 : Int, e = .returned (.tuple #[.slice t142A t142N t142C, .int .i64 t142]) ∧
 br (t142 != t1291) (
 R (.bool false) w41) (
 Calls Try.prog 29 #[.slice t142A t142N t142C, .slice t129A1 t129N1 t129C1] w41 (fun e w43 => ∃ t151 : Bool, e = .returned (.bool t151) ∧
 br (!t151) (
 R (.bool false) w43) (
 purlinlaw16_EventPlays.K0 R t24P b i Nx0 w43))))))) (
 purlinlaw16_EventPlays.K0 R t24P b i Nx0 w7))))))) (
 R (.bool true) w5)) (
 R (.bool true) w5)

def purlinlaw16_EventPlays.F (up : Bool) (callsA : Option Addr) (callsN : Nat) (callsC : Nat) (w : World) (R : Value → World → Prop) : Prop :=
 Calls Try.prog 16 #[.bool up] w (fun e w1 => ∃ t24P : Option Addr, e = .returned (.pointer t24P) ∧
 newBlk w1 (.cells #[.slice none 0 0, .int .i64 0, .bool false] 79 (0, 0)) fun b w2 =>
 storeC w2 b 0 [.slice none 0 0, .int .i64 0, .bool up] fun w3 =>
 Calls Try.prog 17 #[] w3 (fun e w4 => ∃ t27 : Bool, e = .returned (.bool t27) ∧
 br (!t27) (
 R (.bool false) w4) (
 br ((t24P : Option Addr).isNone) (
 R (.bool false) w4) (
 ∃ I : Nat → Int → World → Prop, (∃ n, I n 0 w4) ∧ ∀ (n9 : Nat) (dead : Nat → Value) (w5 : World) (i : Int), I n9 i w5 →
 purlinlaw16_EventPlays.L0 callsA callsN R t24P b i w5 (fun x0 w9 => ∃ m, m < n9 ∧ I m x0 w9)))))

theorem purlinlaw16_EventPlays.vc (up : Bool) (callsA : Option Addr) (callsN : Nat) (callsC : Nat) (w : World) (R : Value → World → Prop) : fnVC Try.prog purlinlaw16_EventPlays.A Try.f10 [.bool up, .slice callsA callsN callsC] w R = purlinlaw16_EventPlays.F up callsA callsN callsC w R := by kernel_rfl
theorem purlinlaw16_EventPlays.calls (up : Bool) (callsA : Option Addr) (callsN : Nat) (callsC : Nat) (w : World) (R : Value → World → Prop) (h : purlinlaw16_EventPlays.F up callsA callsN callsC w R) : Calls Try.prog 10 #[.bool up, .slice callsA callsN callsC] w (Ret R) :=
  calls_of_vc mixed Try.func10 (Eq.mpr (purlinlaw16_EventPlays.vc up callsA callsN callsC w R) h)

/-! ### purlin/purlinlaw16.EventUp: function 11 -/
def purlinlaw16_EventUp.A : Ann where
  sched := fun i => match i with
    | 23 => some (none, .still 0 false 48 <| .still 1 false 49 <| .still 2 false 51 <| .still 3 false 55 <| .still 4 false 15 <| .still 5 false 31 <| .eff 6 <| .done)
    | 25 => some (none, .still 0 false 48 <| .still 1 false 49 <| .still 2 false 51 <| .still 3 false 55 <| .still 4 false 15 <| .still 5 false 31 <| .eff 6 <| .done)
    | _ => none
  loop := fun i => match i with
    | 5 => some [(4, none), (6, some (.one (.int .i64))), (7, none), (8, none), (9, none), (10, none), (11, none), (20, none), (21, none), (22, none), (23, none), (24, none), (25, none), (26, none), (27, none), (28, none), (29, none), (30, none), (31, none), (32, none), (33, none), (34, none), (35, none), (36, none), (37, none), (38, none), (39, none), (40, none), (41, none), (42, none), (43, none), (44, none), (45, none), (46, none), (47, none), (48, none), (49, none), (50, none), (51, none), (52, none), (53, none), (54, none), (55, none), (56, none), (57, none), (58, none), (59, none), (60, none), (61, none), (62, none), (63, none), (64, none), (65, none), (66, none), (67, none), (68, none), (69, none), (70, none), (71, none), (72, none), (73, none), (74, none), (75, none), (76, none), (77, none), (78, none), (79, none), (80, none), (81, none), (82, none), (83, none), (84, none), (85, none), (86, none), (87, none), (88, none), (89, none), (90, none), (91, none), (92, none), (93, none), (94, none), (95, none), (96, none), (97, none), (98, none), (99, none), (100, none), (101, none), (102, none), (103, none), (104, none), (105, none), (106, none), (107, none), (108, none), (109, none), (110, none), (111, none), (112, none), (113, none), (114, none), (115, none), (116, none)]
    | _ => none

def purlinlaw16_EventUp.K0 (R : Value → World → Prop) (t13P : Option Addr) (i : Int) (Nx0 : Int → World → Prop) (w11 : World) : Prop :=
 Calls Try.prog 44 #[.pointer t13P] w11 (fun e w12 => ∃ t107 : Bool, e = .returned (.bool t107) ∧
 br t107 (
 okP t13P (
 ∃ t112V : Value, w12.cell? ⟨(pb t13P), po t13P, none⟩ = some (t112V) ∧
 ∃ (f : FuncId) (args : Array Value) (w15 : World), (callMethod (t112V) "List" #[]).run Try.prog w12 = .ok (.enter f args) w15 ∧
 Calls Try.prog f args w15 (fun e w13 => ∃ t113A : Option Addr, ∃ t113N : Nat, ∃ t113C : Nat, e = .returned (.slice t113A t113N t113C) ∧
 br (decide (((t113N : Nat) : Int) > 0)) (
 R (.bool false) w13) (
 Nx0 (IntKind.wrap .i64 (i + 1)) w13)))) (
 Nx0 (IntKind.wrap .i64 (i + 1)) w12))

def purlinlaw16_EventUp.L0 (callsA : Option Addr) (callsN : Nat) (R : Value → World → Prop) (t13P : Option Addr) (i : Int) (w3 : World) (Nx0 : Int → World → Prop) : Prop :=
 br (decide (i < ((callsN : Nat) : Int))) (
 br (decide (i < 60)) (
 0 ≤ (i : Int) ∧ i < ((callsN : Nat) : Int) ∧ okP callsA (
 ∃ t33 : Int, w3.cell? ⟨(pb callsA), po callsA + i.toNat * 4, none⟩ = some (.int .i64 t33) ∧ ∃ t331 : Int, w3.cell? ⟨(pb callsA), po callsA + i.toNat * 4 + 1, none⟩ = some (.int .i64 t331) ∧ ∃ t332 : Int, w3.cell? ⟨(pb callsA), po callsA + i.toNat * 4 + 2, none⟩ = some (.int .i64 t332) ∧ ∃ t333 : Int, w3.cell? ⟨(pb callsA), po callsA + i.toNat * 4 + 3, none⟩ = some (.int .i64 t333) ∧ 
 newBlk w3 (.cells #[.int .i64 0, .int .i64 0, .int .i64 0, .int .i64 0] 81 (0, 0)) fun b w4 =>
 storeC w4 b 0 [.int .i64 t33, .int .i64 t331, .int .i64 t332, .int .i64 t333] fun w5 =>
 Calls Try.prog 44 #[.pointer t13P] w5 (fun e w6 => ∃ t35 : Bool, e = .returned (.bool t35) ∧
 ∃ t37 : Int, w6.cell? ⟨b, 0, none⟩ = some (.int .i64 t37) ∧
 br (t37 == 0) (
 ∃ t43 : Int, w6.cell? ⟨b, 1, none⟩ = some (.int .i64 t43) ∧
 ∃ t45 : Int, w6.cell? ⟨b, 2, none⟩ = some (.int .i64 t45) ∧
 ∃ t47 : Int, w6.cell? ⟨b, 3, none⟩ = some (.int .i64 t47) ∧
 Calls Try.prog 18 #[.pointer t13P, .int .i64 t43, .int .i64 t45, .int .i64 t47] w6 (fun e w7 => ∃ t48 : Bool, ∃ t481 : Int, e = .returned (.tuple #[.bool t48, .int .i64 t481]) ∧
 br t48 (
 br (!t35) (
 R (.bool false) w7) (
 br t35 (
 Calls Try.prog 44 #[.pointer t13P] w7 (fun e w9 => ∃ t60 : Bool, e = .returned (.bool t60) ∧
 br (!(t60 == t35)) (
 R (.bool false) w9) (
 purlinlaw16_EventUp.K0 R t13P i Nx0 w9))) (
 purlinlaw16_EventUp.K0 R t13P i Nx0 w7))) (
 br t35 (
 Calls Try.prog 44 #[.pointer t13P] w7 (fun e w16 => ∃ t601 : Bool, e = .returned (.bool t601) ∧
 br (!(t601 == t35)) (
 R (.bool false) w16) (
 purlinlaw16_EventUp.K0 R t13P i Nx0 w16))) (
 purlinlaw16_EventUp.K0 R t13P i Nx0 w7)))) (
 br (t37 == 1) (
 okP t13P (
 ∃ t70V : Value, w6.cell? ⟨(pb t13P), po t13P, none⟩ = some (t70V) ∧
 ∃ (f1 : FuncId) (args1 : Array Value) (w22 : World), (callMethod (t70V) "List" #[]).run Try.prog w6 = .ok (.enter f1 args1) w22 ∧
 Calls Try.prog f1 args1 w22 (fun e w17 => ∃ t71A : Option Addr, ∃ t71N : Nat, ∃ t71C : Nat, e = .returned (.slice t71A t71N t71C) ∧
 Calls Try.prog 19 #[.pointer t13P] w17 (fun e w18 => ∃ t73A : Option Addr, ∃ t73N : Nat, ∃ t73C : Nat, e = .returned (.slice t73A t73N t73C) ∧
 Calls Try.prog 29 #[.slice t73A t73N t73C, .slice t71A t71N t71C] w18 (fun e w19 => ∃ t75 : Bool, e = .returned (.bool t75) ∧
 br (!t75) (
 R (.bool false) w19) (
 Calls Try.prog 44 #[.pointer t13P] w19 (fun e w21 => ∃ t79 : Bool, e = .returned (.bool t79) ∧
 br (!t79) (
 R (.bool false) w21) (
 purlinlaw16_EventUp.K0 R t13P i Nx0 w21)))))))) (
 br (t37 == 2) (
 Calls Try.prog 41 #[.pointer t13P] w6 (fun e w23 => e = .returned (.tuple #[]) ∧
 Calls Try.prog 44 #[.pointer t13P] w23 (fun e w24 => ∃ t87 : Bool, e = .returned (.bool t87) ∧
 br t87 (
 R (.bool false) w24) (
 purlinlaw16_EventUp.K0 R t13P i Nx0 w24)))) (
 br (t37 == 3) (
 drawC w6 fun w25 =>
 okP t13P (
 ∃ t93V : Value, w25.cell? ⟨(pb t13P), po t13P, none⟩ = some (t93V) ∧
 ∃ t95 : Int, w25.cell? ⟨b, 1, none⟩ = some (.int .i64 t95) ∧
 ∃ (f2 : FuncId) (args2 : Array Value) (w27 : World), (callMethod (t93V) "Drop" #[.int .i64 t95]).run Try.prog w25 = .ok (.enter f2 args2) w27 ∧
 Calls Try.prog f2 args2 w27 (fun e w26 => ∃ t96 : Int, e = .returned (.int .i64 t96) ∧
 purlinlaw16_EventUp.K0 R t13P i Nx0 w26))) (
 br (t37 == 4) (
 drawC w6 fun w28 =>
 okP t13P (
 ∃ t102V : Value, w28.cell? ⟨(pb t13P), po t13P, none⟩ = some (t102V) ∧
 ∃ t104 : Int, w28.cell? ⟨b, 3, none⟩ = some (.int .i64 t104) ∧
 ∃ (f3 : FuncId) (args3 : Array Value) (w30 : World), (callMethod (t102V) "Expire" #[.int .i64 t104]).run Try.prog w28 = .ok (.enter f3 args3) w30 ∧
 Calls Try.prog f3 args3 w30 (fun e w29 => ∃ t105A : Option Addr, ∃ t105N : Nat, ∃ t105C : Nat, ∃ t105 : Int, e = .returned (.tuple #[.slice t105A t105N t105C, .int .i64 t105]) ∧
 purlinlaw16_EventUp.K0 R t13P i Nx0 w29))) (
 purlinlaw16_EventUp.K0 R t13P i Nx0 w6)))))))) (
 R (.bool true) w3)) (
 R (.bool true) w3)

def purlinlaw16_EventUp.F (up : Bool) (callsA : Option Addr) (callsN : Nat) (callsC : Nat) (w : World) (R : Value → World → Prop) : Prop :=
 Calls Try.prog 16 #[.bool up] w (fun e w1 => ∃ t13P : Option Addr, e = .returned (.pointer t13P) ∧
 Calls Try.prog 17 #[] w1 (fun e w2 => ∃ t14 : Bool, e = .returned (.bool t14) ∧
 br (!t14) (
 R (.bool false) w2) (
 br ((t13P : Option Addr).isNone) (
 R (.bool false) w2) (
 ∃ I : Nat → Int → World → Prop, (∃ n, I n 0 w2) ∧ ∀ (n9 : Nat) (dead : Nat → Value) (w3 : World) (i : Int), I n9 i w3 →
 purlinlaw16_EventUp.L0 callsA callsN R t13P i w3 (fun x0 w9 => ∃ m, m < n9 ∧ I m x0 w9)))))

theorem purlinlaw16_EventUp.vc (up : Bool) (callsA : Option Addr) (callsN : Nat) (callsC : Nat) (w : World) (R : Value → World → Prop) : fnVC Try.prog purlinlaw16_EventUp.A Try.f11 [.bool up, .slice callsA callsN callsC] w R = purlinlaw16_EventUp.F up callsA callsN callsC w R := by kernel_rfl
theorem purlinlaw16_EventUp.calls (up : Bool) (callsA : Option Addr) (callsN : Nat) (callsC : Nat) (w : World) (R : Value → World → Prop) (h : purlinlaw16_EventUp.F up callsA callsN callsC w R) : Calls Try.prog 11 #[.bool up, .slice callsA callsN callsC] w (Ret R) :=
  calls_of_vc mixed Try.func11 (Eq.mpr (purlinlaw16_EventUp.vc up callsA callsN callsC w R) h)

/-! ### purlin/purlinlaw16.EventOnce: function 12 -/
def purlinlaw16_EventOnce.A : Ann where
  sched := fun i => match i with
    | 20 => some (none, .still 0 false 48 <| .still 1 false 49 <| .still 2 false 51 <| .still 3 false 55 <| .still 4 false 15 <| .still 5 false 31 <| .eff 6 <| .still 7 false 127 <| .done)
    | 23 => some (none, .still 0 false 48 <| .still 1 false 49 <| .still 2 false 51 <| .still 3 false 55 <| .still 4 false 15 <| .still 5 false 31 <| .eff 6 <| .still 7 false 127 <| .still 8 false 767 <| .still 9 false 1535 <| .still 10 false 1023 <| .done)
    | 31 => some (none, .still 0 false 242 <| .still 1 false 241 <| .still 2 false 243 <| .still 3 false 247 <| .still 4 false 47 <| .still 5 false 31 <| .still 6 false 63 <| .still 7 false 127 <| .still 8 false 255 <| .done)
    | _ => none
  loop := fun i => match i with
    | 6 => some [(2, none), (4, some (.one (.slice))), (5, some (.one (.int .i64))), (6, none), (7, none), (8, none), (9, none), (10, none), (11, none), (12, none), (21, none), (22, none), (23, none), (24, none), (25, none), (26, none), (27, none), (28, none), (29, none), (30, none), (31, none), (32, none), (33, none), (34, none), (35, none), (36, none), (37, none), (38, none), (39, none), (40, none), (41, none), (42, none), (43, none), (44, none), (45, none), (46, none), (47, none), (48, none), (49, none), (50, none), (51, none), (52, none), (53, none), (54, none), (55, none), (56, none), (57, none), (58, none), (59, none), (60, none), (61, none), (62, none), (63, none), (64, none), (65, none), (66, none), (67, none), (68, none), (69, none), (70, none), (71, none), (72, none), (73, none), (74, none), (75, none), (76, none), (77, none), (78, none), (79, none), (80, none), (81, none), (82, none), (83, none), (84, none), (85, none), (86, none), (87, none), (88, none), (89, none), (90, none), (91, none), (92, none), (93, none), (94, none), (95, none), (96, none), (97, none), (98, none), (99, none), (100, none), (101, none), (102, none), (103, none), (104, none), (105, none), (106, none), (107, none), (108, none), (109, none), (110, none), (111, none), (112, none), (113, none), (114, none), (115, none), (116, none), (117, none), (118, none), (119, none), (120, none), (121, none), (122, none), (123, none), (124, none), (125, none), (126, none), (127, none), (128, none), (129, none), (130, none), (131, none), (132, none), (133, none), (134, none), (135, none), (136, none), (137, none), (138, none), (139, none), (140, none), (141, none), (142, none), (143, none), (144, none), (145, none), (146, none)]
    | 25 => some [(2, none), (4, some (.one (.slice))), (10, some (.one (.int .i64))), (11, none), (12, none), (102, none), (103, none), (104, none), (105, none), (106, none), (107, none), (108, none), (109, none), (110, none), (111, none), (112, none), (113, none), (114, none), (115, none), (116, none), (117, none), (118, none), (119, none), (120, none), (121, none), (122, none), (123, none), (124, none), (125, none), (126, none), (127, none), (128, none), (129, none), (130, none), (131, none), (132, none), (133, none), (134, none), (135, none), (136, none), (137, none)]
    | 29 => some [(11, some (.one (.slice))), (12, some (.one (.int .i64))), (109, none), (110, none), (111, none), (112, none), (113, none), (114, none), (115, none), (116, none), (117, none), (118, none), (119, none), (120, none), (121, none), (122, none), (123, none), (124, none), (125, none), (126, none), (127, none), (128, none), (129, none), (130, none)]
    | _ => none

def purlinlaw16_EventOnce.L2 (R : Value → World → Prop) (goneA : Option Addr) (goneN : Nat) (waitsA2 : Option Addr) (waitsN2 : Nat) (k : Int) (Nx1 : Option Addr → Nat → Nat → Int → World → Prop) (leftA : Option Addr) (leftN : Nat) (leftC : Nat) (j : Int) (w14 : World) (Nx2 : Option Addr → Nat → Nat → Int → World → Prop) : Prop :=
 br (decide (j < ((waitsN2 : Nat) : Int))) (
 drawC w14 fun w15 =>
 0 ≤ (j : Int) ∧ j < ((waitsN2 : Nat) : Int) ∧ okP waitsA2 (
 ∃ t118 : Int, w15.cell? ⟨(pb waitsA2), po waitsA2 + j.toNat * 1, none⟩ = some (.int .i64 t118) ∧
 0 ≤ (k : Int) ∧ k < ((goneN : Nat) : Int) ∧ okP goneA (
 ∃ t122 : Int, w15.cell? ⟨(pb goneA), po goneA + k.toNat * 1, none⟩ = some (.int .i64 t122) ∧
 br (t118 != t122) (
 0 ≤ (j : Int) ∧ j < ((waitsN2 : Nat) : Int) ∧ okP waitsA2 (
 ∃ t128 : Int, w15.cell? ⟨(pb waitsA2), po waitsA2 + j.toNat * 1, none⟩ = some (.int .i64 t128) ∧
 newBlk w15 (.cells #[.int .i64 t128] 3 (0, 0)) fun b5 w16 =>
 ∃ t130A : Option Addr, ∃ t130N : Nat, ∃ t130C : Nat, ∃ w17 : World, (Builtin.append_ #[29, 29] 29 #[.slice leftA leftN leftC, .slice (some ⟨b5, 0, none⟩) 1 1]).run Try.prog w16 = .ok (.slice t130A t130N t130C) w17 ∧
 Nx2 t130A t130N t130C (IntKind.wrap .i64 (j + 1)) w17)) (
 Nx2 leftA leftN leftC (IntKind.wrap .i64 (j + 1)) w15)))) (
 br (((leftN : Nat) : Int) != IntKind.wrap .i64 (((waitsN2 : Nat) : Int) - 1)) (
 R (.bool false) w14) (
 Nx1 leftA leftN leftC (IntKind.wrap .i64 (k + 1)) w14))

def purlinlaw16_EventOnce.L1 (R : Value → World → Prop) (t13P : Option Addr) (i : Int) (Nx0 : Option Addr → Nat → Nat → Int → World → Prop) (goneA : Option Addr) (goneN : Nat) (dead : Nat → Value) (waitsA2 : Option Addr) (waitsN2 : Nat) (waitsC2 : Nat) (k : Int) (w12 : World) (Nx1 : Option Addr → Nat → Nat → Int → World → Prop) : Prop :=
 br (decide (k < ((goneN : Nat) : Int))) (
 newBlk w12 (.cells #[] 3 (0, 0)) fun b4 w13 =>
 ∃ I : Nat → Option Addr → Nat → Nat → Int → World → Prop, (∃ n, I n (some ⟨b4, 0, none⟩) 0 0 0 w13) ∧ ∀ (n9 : Nat) (dead : Nat → Value) (w14 : World) (leftA : Option Addr) (leftN : Nat) (leftC : Nat) (j : Int), I n9 leftA leftN leftC j w14 →
 purlinlaw16_EventOnce.L2 R goneA goneN waitsA2 waitsN2 k Nx1 leftA leftN leftC j w14 (fun x0 x1 x2 x3 w9 => ∃ m, m < n9 ∧ I m x0 x1 x2 x3 w9)) (
 okP t13P (
 ∃ t141V : Value, w12.cell? ⟨(pb t13P), po t13P, none⟩ = some (t141V) ∧
 ∃ (f : FuncId) (args : Array Value) (w20 : World), (callMethod (t141V) "List" #[]).run Try.prog w12 = .ok (.enter f args) w20 ∧
 Calls Try.prog f args w20 (fun e w19 => ∃ t142A : Option Addr, ∃ t142N : Nat, ∃ t142C : Nat, e = .returned (.slice t142A t142N t142C) ∧
 br (((t142N : Nat) : Int) != ((waitsN2 : Nat) : Int)) (
 R (.bool false) w19) (
 Nx0 waitsA2 waitsN2 waitsC2 (IntKind.wrap .i64 (i + 1)) w19))))

def purlinlaw16_EventOnce.K0 (R : Value → World → Prop) (t13P : Option Addr) (i : Int) (Nx0 : Option Addr → Nat → Nat → Int → World → Prop) (waitsA1 : Option Addr) (waitsN1 : Nat) (waitsC1 : Nat) (goneA : Option Addr) (goneN : Nat) (goneC : Nat) (w11 : World) : Prop :=
 ∃ I : Nat → Option Addr → Nat → Nat → Int → World → Prop, (∃ n, I n waitsA1 waitsN1 waitsC1 0 w11) ∧ ∀ (n9 : Nat) (dead : Nat → Value) (w12 : World) (waitsA2 : Option Addr) (waitsN2 : Nat) (waitsC2 : Nat) (k : Int), I n9 waitsA2 waitsN2 waitsC2 k w12 →
 purlinlaw16_EventOnce.L1 R t13P i Nx0 goneA goneN dead waitsA2 waitsN2 waitsC2 k w12 (fun x0 x1 x2 x3 w9 => ∃ m, m < n9 ∧ I m x0 x1 x2 x3 w9)

def purlinlaw16_EventOnce.L0 (callsA : Option Addr) (callsN : Nat) (R : Value → World → Prop) (t13P : Option Addr) (waitsA : Option Addr) (waitsN : Nat) (waitsC : Nat) (i : Int) (w4 : World) (Nx0 : Option Addr → Nat → Nat → Int → World → Prop) : Prop :=
 br (decide (i < ((callsN : Nat) : Int))) (
 br (decide (i < 60)) (
 0 ≤ (i : Int) ∧ i < ((callsN : Nat) : Int) ∧ okP callsA (
 ∃ t34 : Int, w4.cell? ⟨(pb callsA), po callsA + i.toNat * 4, none⟩ = some (.int .i64 t34) ∧ ∃ t341 : Int, w4.cell? ⟨(pb callsA), po callsA + i.toNat * 4 + 1, none⟩ = some (.int .i64 t341) ∧ ∃ t342 : Int, w4.cell? ⟨(pb callsA), po callsA + i.toNat * 4 + 2, none⟩ = some (.int .i64 t342) ∧ ∃ t343 : Int, w4.cell? ⟨(pb callsA), po callsA + i.toNat * 4 + 3, none⟩ = some (.int .i64 t343) ∧ 
 newBlk w4 (.cells #[.int .i64 0, .int .i64 0, .int .i64 0, .int .i64 0] 81 (0, 0)) fun b1 w5 =>
 storeC w5 b1 0 [.int .i64 t34, .int .i64 t341, .int .i64 t342, .int .i64 t343] fun w6 =>
 newBlk w6 (.cells #[] 3 (0, 0)) fun b2 w7 =>
 ∃ t37 : Int, w7.cell? ⟨b1, 0, none⟩ = some (.int .i64 t37) ∧
 br (t37 == 0) (
 ∃ t43 : Int, w7.cell? ⟨b1, 1, none⟩ = some (.int .i64 t43) ∧
 ∃ t45 : Int, w7.cell? ⟨b1, 2, none⟩ = some (.int .i64 t45) ∧
 ∃ t47 : Int, w7.cell? ⟨b1, 3, none⟩ = some (.int .i64 t47) ∧
 Calls Try.prog 18 #[.pointer t13P, .int .i64 t43, .int .i64 t45, .int .i64 t47] w7 (fun e w8 => ∃ t48 : Bool, ∃ t481 : Int, e = .returned (.tuple #[.bool t48, .int .i64 t481]) ∧
 br (!t48) (
 br (t481 == 0) (
 ∃ t59 : Int, w8.cell? ⟨b1, 3, none⟩ = some (.int .i64 t59) ∧
 br (t59 != 0) (
 ∃ t64 : Int, w8.cell? ⟨b1, 1, none⟩ = some (.int .i64 t64) ∧
 newBlk w8 (.cells #[.int .i64 t64] 3 (0, 0)) fun b3 w9 =>
 ∃ t66A : Option Addr, ∃ t66N : Nat, ∃ t66C : Nat, ∃ w10 : World, (Builtin.append_ #[29, 29] 29 #[.slice waitsA waitsN waitsC, .slice (some ⟨b3, 0, none⟩) 1 1]).run Try.prog w9 = .ok (.slice t66A t66N t66C) w10 ∧
 purlinlaw16_EventOnce.K0 R t13P i Nx0 t66A t66N t66C (some ⟨b2, 0, none⟩) 0 0 w10) (
 purlinlaw16_EventOnce.K0 R t13P i Nx0 waitsA waitsN waitsC (some ⟨b2, 0, none⟩) 0 0 w8)) (
 purlinlaw16_EventOnce.K0 R t13P i Nx0 waitsA waitsN waitsC (some ⟨b2, 0, none⟩) 0 0 w8)) (
 purlinlaw16_EventOnce.K0 R t13P i Nx0 waitsA waitsN waitsC (some ⟨b2, 0, none⟩) 0 0 w8))) (
 br (t37 == 1) (
 Calls Try.prog 19 #[.pointer t13P] w7 (fun e w21 => ∃ t70A : Option Addr, ∃ t70N : Nat, ∃ t70C : Nat, e = .returned (.slice t70A t70N t70C) ∧
 purlinlaw16_EventOnce.K0 R t13P i Nx0 waitsA waitsN waitsC t70A t70N t70C w21)) (
 br (t37 == 2) (
 Calls Try.prog 41 #[.pointer t13P] w7 (fun e w22 => e = .returned (.tuple #[]) ∧
 purlinlaw16_EventOnce.K0 R t13P i Nx0 waitsA waitsN waitsC (some ⟨b2, 0, none⟩) 0 0 w22)) (
 br (t37 == 3) (
 drawC w7 fun w23 =>
 okP t13P (
 ∃ t80V : Value, w23.cell? ⟨(pb t13P), po t13P, none⟩ = some (t80V) ∧
 ∃ t82 : Int, w23.cell? ⟨b1, 1, none⟩ = some (.int .i64 t82) ∧
 ∃ (f1 : FuncId) (args1 : Array Value) (w27 : World), (callMethod (t80V) "Drop" #[.int .i64 t82]).run Try.prog w23 = .ok (.enter f1 args1) w27 ∧
 Calls Try.prog f1 args1 w27 (fun e w24 => ∃ t83 : Int, e = .returned (.int .i64 t83) ∧
 br (t83 == 0) (
 ∃ t87 : Int, w24.cell? ⟨b1, 1, none⟩ = some (.int .i64 t87) ∧
 newBlk w24 (.cells #[.int .i64 t87] 3 (0, 0)) fun b6 w25 =>
 ∃ t89A : Option Addr, ∃ t89N : Nat, ∃ t89C : Nat, ∃ w26 : World, (Builtin.append_ #[29, 29] 29 #[.slice (some ⟨b2, 0, none⟩) 0 0, .slice (some ⟨b6, 0, none⟩) 1 1]).run Try.prog w25 = .ok (.slice t89A t89N t89C) w26 ∧
 purlinlaw16_EventOnce.K0 R t13P i Nx0 waitsA waitsN waitsC t89A t89N t89C w26) (
 purlinlaw16_EventOnce.K0 R t13P i Nx0 waitsA waitsN waitsC (some ⟨b2, 0, none⟩) 0 0 w24)))) (
 br (t37 == 4) (
 drawC w7 fun w28 =>
 okP t13P (
 ∃ t96V : Value, w28.cell? ⟨(pb t13P), po t13P, none⟩ = some (t96V) ∧
 ∃ t98 : Int, w28.cell? ⟨b1, 3, none⟩ = some (.int .i64 t98) ∧
 ∃ (f2 : FuncId) (args2 : Array Value) (w30 : World), (callMethod (t96V) "Expire" #[.int .i64 t98]).run Try.prog w28 = .ok (.enter f2 args2) w30 ∧
 Calls Try.prog f2 args2 w30 (fun e w29 => ∃ t99A : Option Addr, ∃ t99N : Nat, ∃ t99C : Nat, ∃ t99 : Int, e = .returned (.tuple #[.slice t99A t99N t99C, .int .i64 t99]) ∧
 purlinlaw16_EventOnce.K0 R t13P i Nx0 waitsA waitsN waitsC t99A t99N t99C w29))) (
 purlinlaw16_EventOnce.K0 R t13P i Nx0 waitsA waitsN waitsC (some ⟨b2, 0, none⟩) 0 0 w7))))))) (
 R (.bool true) w4)) (
 R (.bool true) w4)

def purlinlaw16_EventOnce.F (callsA : Option Addr) (callsN : Nat) (callsC : Nat) (w : World) (R : Value → World → Prop) : Prop :=
 Calls Try.prog 16 #[.bool false] w (fun e w1 => ∃ t13P : Option Addr, e = .returned (.pointer t13P) ∧
 Calls Try.prog 17 #[] w1 (fun e w2 => ∃ t14 : Bool, e = .returned (.bool t14) ∧
 br (!t14) (
 R (.bool false) w2) (
 br ((t13P : Option Addr).isNone) (
 R (.bool false) w2) (
 newBlk w2 (.cells #[] 3 (0, 0)) fun b w3 =>
 ∃ I : Nat → Option Addr → Nat → Nat → Int → World → Prop, (∃ n, I n (some ⟨b, 0, none⟩) 0 0 0 w3) ∧ ∀ (n9 : Nat) (dead : Nat → Value) (w4 : World) (waitsA : Option Addr) (waitsN : Nat) (waitsC : Nat) (i : Int), I n9 waitsA waitsN waitsC i w4 →
 purlinlaw16_EventOnce.L0 callsA callsN R t13P waitsA waitsN waitsC i w4 (fun x0 x1 x2 x3 w9 => ∃ m, m < n9 ∧ I m x0 x1 x2 x3 w9)))))

theorem purlinlaw16_EventOnce.vc (callsA : Option Addr) (callsN : Nat) (callsC : Nat) (w : World) (R : Value → World → Prop) : fnVC Try.prog purlinlaw16_EventOnce.A Try.f12 [.slice callsA callsN callsC] w R = purlinlaw16_EventOnce.F callsA callsN callsC w R := by kernel_rfl
theorem purlinlaw16_EventOnce.calls (callsA : Option Addr) (callsN : Nat) (callsC : Nat) (w : World) (R : Value → World → Prop) (h : purlinlaw16_EventOnce.F callsA callsN callsC w R) : Calls Try.prog 12 #[.slice callsA callsN callsC] w (Ret R) :=
  calls_of_vc mixed Try.func12 (Eq.mpr (purlinlaw16_EventOnce.vc callsA callsN callsC w R) h)

end Go.Proofs.Ytecacohkkdhphaa
