/- Printed by vcgen.py: of each function of this text its weakest precondition as a formula, and that it is one. Conditions: none. -/
import Derived.Test.YtecacohkkdhphaaVcCode
import Derived.Test.YtecacohkkdhphaaVcMem
import Derived.Test.YtecacohkkdhphaaChecked
namespace Go.Proofs.Ytecacohkkdhphaa
open Go.Vc
set_option linter.unusedVariables false
set_option maxRecDepth 100000

/-! ### purlin/purlinlaw17.ProcPlays: function 4 -/
def purlinlaw17_ProcPlays.A : Ann where
  sched := fun i => match i with
    | 17 => some ((some 3145728), .still 0 false 2 <| .still 1 false 1 <| .still 2 false 3 <| .still 3 false 7 <| .still 4 false 47 <| .still 5 false 31 <| .still 6 false 63 <| .still 7 false 127 <| .still 8 false 255 <| .still 9 false 14847 <| .still 11 true 2047 <| .still 12 true 4095 <| .still 13 true 8191 <| .eff 10 <| .still 14 false 16383 <| .still 15 false 32767 <| .still 16 false 65535 <| .still 17 false 655359 <| .still 19 true 524287 <| .eff 18 <| .eff 20 <| .eff 21 <| .still 22 false 4194303 <| .still 23 false 8388607 <| .done)
    | _ => none
  loop := fun i => match i with
    | 8 => some [(4, none), (9, some (.one (.int .i64))), (10, none), (11, none), (12, none), (13, none), (14, none), (15, none), (16, none), (17, none), (18, none), (19, none), (20, none), (52, none), (53, none), (54, none), (55, none), (56, none), (57, none), (58, none), (59, none), (60, none), (61, none), (62, none), (63, none), (64, none), (65, none), (66, none), (67, none), (68, none), (69, none), (70, none), (71, none), (72, none), (73, none), (74, none), (75, none), (76, none), (77, none), (78, none), (79, none), (80, none), (81, none), (82, none), (83, none), (84, none), (85, none), (86, none), (87, none), (88, none), (89, none), (90, none), (91, none), (92, none), (93, none), (94, none), (95, none), (96, none), (97, none), (98, none), (99, none), (100, none), (101, none), (102, none), (103, none), (104, none), (105, none), (106, none), (107, none), (108, none), (109, none), (110, none), (111, none), (112, none), (113, none), (114, none), (115, none), (116, none), (117, none), (118, none), (119, none), (120, none), (121, none), (122, none), (123, none), (124, none), (125, none), (126, none), (127, none), (128, none), (129, none), (130, none), (131, none), (132, none), (133, none), (134, none), (135, none), (136, none), (137, none), (138, none), (139, none), (140, none), (141, none), (142, none), (143, none), (144, none), (145, none), (146, none), (147, none), (148, none), (149, none), (150, none), (151, none), (152, none), (153, none), (154, none)]
    | 20 => some [(4, none), (17, some (.one (.int .i64))), (18, none), (19, none), (20, none), (113, none), (114, none), (115, none), (116, none), (117, none), (118, none), (119, none), (120, none), (121, none), (122, none), (123, none), (124, none), (125, none), (126, none), (127, none), (128, none), (129, none), (130, none), (131, none), (132, none), (133, none), (134, none), (135, none), (136, none), (137, none), (138, none), (139, none), (140, none), (141, none), (142, none), (143, none), (144, none), (145, none), (146, none), (147, none), (148, none), (149, none), (150, none), (151, none), (152, none), (153, none), (154, none)]
    | _ => none

def purlinlaw17_ProcPlays.L1 (R : Value → World → Prop) (t28P : Option Addr) (b1 : Nat) (i : Int) (Nx0 : Int → World → Prop) (k : Int) (w26 : World) (Nx1 : Int → World → Prop) : Prop :=
 ∃ t115A : Option Addr, ∃ t115N : Nat, ∃ t115C : Nat, w26.cell? ⟨b1, 1, none⟩ = some (.slice t115A t115N t115C) ∧
 br (decide (k < ((t115N : Nat) : Int))) (
 Calls Try.prog 32 #[.pointer t28P, .int .i64 k] w26 (fun e w27 => ∃ t123 : Int, ∃ t1231 : Bool, ∃ t1232 : Int, e = .returned (.tuple #[.int .i64 t123, .bool t1231, .int .i64 t1232]) ∧
 ∃ t129A : Option Addr, ∃ t129N : Nat, ∃ t129C : Nat, w27.cell? ⟨b1, 1, none⟩ = some (.slice t129A t129N t129C) ∧
 0 ≤ (k : Int) ∧ k < ((t129N : Nat) : Int) ∧ okP t129A (
 ∃ t133 : Int, w27.cell? ⟨(pb t129A), po t129A + k.toNat * 3, none⟩ = some (.int .i64 t133) ∧
 br (t123 != t133) (
 R (.bool false) w27) (
 ∃ t138A : Option Addr, ∃ t138N : Nat, ∃ t138C : Nat, w27.cell? ⟨b1, 1, none⟩ = some (.slice t138A t138N t138C) ∧
 0 ≤ (k : Int) ∧ k < ((t138N : Nat) : Int) ∧ okP t138A (
 ∃ t142 : Bool, w27.cell? ⟨(pb t138A), po t138A + k.toNat * 3 + 1, none⟩ = some (.bool t142) ∧
 br (!(t1231 == t142)) (
 R (.bool false) w27) (
 ∃ t148A : Option Addr, ∃ t148N : Nat, ∃ t148C : Nat, w27.cell? ⟨b1, 1, none⟩ = some (.slice t148A t148N t148C) ∧
 0 ≤ (k : Int) ∧ k < ((t148N : Nat) : Int) ∧ okP t148A (
 ∃ t152 : Int, w27.cell? ⟨(pb t148A), po t148A + k.toNat * 3 + 2, none⟩ = some (.int .i64 t152) ∧
 br (t1232 != t152) (
 R (.bool false) w27) (
 Nx1 (IntKind.wrap .i64 (k + 1)) w27)))))))) (
 Nx0 (IntKind.wrap .i64 (i + 1)) w26)

def purlinlaw17_ProcPlays.K0 (R : Value → World → Prop) (t28P : Option Addr) (w8 : World) : Prop :=
 Calls Try.prog 32 #[.pointer t28P, .int .i64 (-1)] w8 (fun e w28 => ∃ t157 : Int, ∃ t1571 : Bool, ∃ t1572 : Int, e = .returned (.tuple #[.int .i64 t157, .bool t1571, .int .i64 t1572]) ∧
 br (t157 == 0) (
 br (!t1571) (
 R (.bool (t1572 == 0)) w28) (
 R (.bool false) w28)) (
 R (.bool false) w28))

def purlinlaw17_ProcPlays.L0 (callsA : Option Addr) (callsN : Nat) (R : Value → World → Prop) (t28P : Option Addr) (b1 : Nat) (dead : Nat → Value) (i : Int) (w8 : World) (Nx0 : Int → World → Prop) : Prop :=
 br (decide (i < ((callsN : Nat) : Int))) (
 br (decide (i < 60)) (
 0 ≤ (i : Int) ∧ i < ((callsN : Nat) : Int) ∧ okP callsA (
 ∃ t65 : Int, w8.cell? ⟨(pb callsA), po callsA + i.toNat * 3, none⟩ = some (.int .i64 t65) ∧ ∃ t651 : Int, w8.cell? ⟨(pb callsA), po callsA + i.toNat * 3 + 1, none⟩ = some (.int .i64 t651) ∧ ∃ t652 : Int, w8.cell? ⟨(pb callsA), po callsA + i.toNat * 3 + 2, none⟩ = some (.int .i64 t652) ∧ 
 Calls Try.prog 23 #[.agg #[.int .i64 t65, .int .i64 t651, .int .i64 t652]] w8 (fun e w9 => ∃ t66 : Int, ∃ t661 : Int, ∃ t662 : Int, e = .returned (.agg #[.int .i64 t66, .int .i64 t661, .int .i64 t662]) ∧
 newBlk w9 (.cells #[.int .i64 0, .int .i64 0, .int .i64 0] 46 (0, 0)) fun b2 w10 =>
 storeC w10 b2 0 [.int .i64 t66, .int .i64 t661, .int .i64 t662] fun w11 =>
 ∃ t68A : Option Addr, ∃ t68N : Nat, ∃ t68C : Nat, w11.cell? ⟨b1, 0, none⟩ = some (.slice t68A t68N t68C) ∧ ∃ t68A1 : Option Addr, ∃ t68N1 : Nat, ∃ t68C1 : Nat, w11.cell? ⟨b1, 1, none⟩ = some (.slice t68A1 t68N1 t68C1) ∧ ∃ t68A2 : Option Addr, ∃ t68N2 : Nat, ∃ t68C2 : Nat, w11.cell? ⟨b1, 2, none⟩ = some (.slice t68A2 t68N2 t68C2) ∧ 
 ∃ t69 : Int, w11.cell? ⟨b2, 0, none⟩ = some (.int .i64 t69) ∧ ∃ t691 : Int, w11.cell? ⟨b2, 1, none⟩ = some (.int .i64 t691) ∧ ∃ t692 : Int, w11.cell? ⟨b2, 2, none⟩ = some (.int .i64 t692) ∧ 
 Calls Try.prog 24 #[.agg #[.slice t68A t68N t68C, .slice t68A1 t68N1 t68C1, .slice t68A2 t68N2 t68C2], .agg #[.int .i64 t69, .int .i64 t691, .int .i64 t692]] w11 (fun e w12 => ∃ t70A : Option Addr, ∃ t70N : Nat, ∃ t70C : Nat, ∃ t70A1 : Option Addr, ∃ t70N1 : Nat, ∃ t70C1 : Nat, ∃ t70A2 : Option Addr, ∃ t70N2 : Nat, ∃ t70C2 : Nat, ∃ t70 : Int, e = .returned (.tuple #[.agg #[.slice t70A t70N t70C, .slice t70A1 t70N1 t70C1, .slice t70A2 t70N2 t70C2], .int .i64 t70]) ∧
 newBlk w12 (.cells #[.slice none 0 0, .slice none 0 0, .slice none 0 0] 42 (0, 0)) fun b3 w13 =>
 storeC w13 b3 0 [.slice t70A t70N t70C, .slice t70A1 t70N1 t70C1, .slice t70A2 t70N2 t70C2] fun w14 =>
 ∃ t73A : Option Addr, ∃ t73N : Nat, ∃ t73C : Nat, w14.cell? ⟨b3, 0, none⟩ = some (.slice t73A t73N t73C) ∧ ∃ t73A1 : Option Addr, ∃ t73N1 : Nat, ∃ t73C1 : Nat, w14.cell? ⟨b3, 1, none⟩ = some (.slice t73A1 t73N1 t73C1) ∧ ∃ t73A2 : Option Addr, ∃ t73N2 : Nat, ∃ t73C2 : Nat, w14.cell? ⟨b3, 2, none⟩ = some (.slice t73A2 t73N2 t73C2) ∧ 
 storeC w14 b1 0 [.slice t73A t73N t73C, .slice t73A1 t73N1 t73C1, .slice t73A2 t73N2 t73C2] fun w15 =>
 ∃ t75 : Int, w15.cell? ⟨b2, 0, none⟩ = some (.int .i64 t75) ∧ ∃ t751 : Int, w15.cell? ⟨b2, 1, none⟩ = some (.int .i64 t751) ∧ ∃ t752 : Int, w15.cell? ⟨b2, 2, none⟩ = some (.int .i64 t752) ∧ 
 Calls Try.prog 25 #[.pointer t28P, .agg #[.int .i64 t75, .int .i64 t751, .int .i64 t752]] w15 (fun e w16 => ∃ t76 : Int, e = .returned (.int .i64 t76) ∧
 br (t76 != t70) (
 R (.bool false) w16) (
 Calls Try.prog 26 #[.pointer t28P] w16 (fun e w17 => ∃ t81 : Int, ∃ t811 : Bool, e = .returned (.tuple #[.int .i64 t81, .bool t811]) ∧
 ∃ t85A : Option Addr, ∃ t85N : Nat, ∃ t85C : Nat, w17.cell? ⟨b1, 0, none⟩ = some (.slice t85A t85N t85C) ∧ ∃ t85A1 : Option Addr, ∃ t85N1 : Nat, ∃ t85C1 : Nat, w17.cell? ⟨b1, 1, none⟩ = some (.slice t85A1 t85N1 t85C1) ∧ ∃ t85A2 : Option Addr, ∃ t85N2 : Nat, ∃ t85C2 : Nat, w17.cell? ⟨b1, 2, none⟩ = some (.slice t85A2 t85N2 t85C2) ∧ 
 Calls Try.prog 27 #[.agg #[.slice t85A t85N t85C, .slice t85A1 t85N1 t85C1, .slice t85A2 t85N2 t85C2]] w17 (fun e w18 => ∃ t86 : Int, ∃ t861 : Bool, e = .returned (.tuple #[.int .i64 t86, .bool t861]) ∧
 ∃ S : World → Prop, S w18.drew ∧ drawC w18 fun w19 =>
 br (t81 != t86) (
 R (.bool false) w19) (
 br (!(t811 == t861)) (
 R (.bool false) w19) (
 ∃ t101A : Option Addr, ∃ t101N : Nat, ∃ t101C : Nat, (∀ w9 : World, S w9 → w9.cell? ⟨b1, 1, none⟩ = some (.slice t101A t101N t101C)) ∧
 Calls Try.prog 28 #[.pointer t28P] w19 (fun e w22 => ∃ t99 : Int, e = .returned (.int .i64 t99) ∧
 S w22 ∧ br (t99 != ((t101N : Nat) : Int)) (
 R (.bool false) w22) (
 ∃ t108A : Option Addr, ∃ t108N : Nat, ∃ t108C : Nat, (∀ w9 : World, S w9 → w9.cell? ⟨b1, 0, none⟩ = some (.slice t108A t108N t108C)) ∧ ∃ t108A1 : Option Addr, ∃ t108N1 : Nat, ∃ t108C1 : Nat, (∀ w9 : World, S w9 → w9.cell? ⟨b1, 1, none⟩ = some (.slice t108A1 t108N1 t108C1)) ∧ ∃ t108A2 : Option Addr, ∃ t108N2 : Nat, ∃ t108C2 : Nat, (∀ w9 : World, S w9 → w9.cell? ⟨b1, 2, none⟩ = some (.slice t108A2 t108N2 t108C2)) ∧ 
 Calls Try.prog 30 #[.pointer t28P] w22 (fun e w23 => ∃ t107A : Option Addr, ∃ t107N : Nat, ∃ t107C : Nat, e = .returned (.slice t107A t107N t107C) ∧
 S w23 ∧ Calls Try.prog 31 #[.agg #[.slice t108A t108N t108C, .slice t108A1 t108N1 t108C1, .slice t108A2 t108N2 t108C2]] w23 (fun e w24 => ∃ t109A : Option Addr, ∃ t109N : Nat, ∃ t109C : Nat, e = .returned (.slice t109A t109N t109C) ∧
 Calls Try.prog 29 #[.slice t107A t107N t107C, .slice t109A t109N t109C] w24 (fun e w25 => ∃ t110 : Bool, e = .returned (.bool t110) ∧
 br (!t110) (
 R (.bool false) w25) (
 ∃ I : Nat → Int → World → Prop, (∃ n, I n 0 w25) ∧ ∀ (n9 : Nat) (dead : Nat → Value) (w26 : World) (k : Int), I n9 k w26 →
 purlinlaw17_ProcPlays.L1 R t28P b1 i Nx0 k w26 (fun x0 w9 => ∃ m, m < n9 ∧ I m x0 w9))))))))))))))))) (
 purlinlaw17_ProcPlays.K0 R t28P w8)) (
 purlinlaw17_ProcPlays.K0 R t28P w8)

def purlinlaw17_ProcPlays.F (priosA : Option Addr) (priosN : Nat) (priosC : Nat) (callsA : Option Addr) (callsN : Nat) (callsC : Nat) (w : World) (R : Value → World → Prop) : Prop :=
 newBlk w (.cells #[] 5 (0, 0)) fun b w1 =>
 ∃ t27A : Option Addr, ∃ t27N : Nat, ∃ t27C : Nat, ∃ w2 : World, (Builtin.append_ #[22, 22] 22 #[.slice (some ⟨b, 0, none⟩) 0 0, .slice priosA priosN priosC]).run Try.prog w1 = .ok (.slice t27A t27N t27C) w2 ∧
 Calls Try.prog 20 #[.slice t27A t27N t27C] w2 (fun e w3 => ∃ t28P : Option Addr, ∃ t28 : Int, e = .returned (.tuple #[.pointer t28P, .int .i64 t28]) ∧
 Calls Try.prog 21 #[.slice priosA priosN priosC] w3 (fun e w4 => ∃ t33A : Option Addr, ∃ t33N : Nat, ∃ t33C : Nat, ∃ t33A1 : Option Addr, ∃ t33N1 : Nat, ∃ t33C1 : Nat, ∃ t33A2 : Option Addr, ∃ t33N2 : Nat, ∃ t33C2 : Nat, ∃ t33 : Int, e = .returned (.tuple #[.agg #[.slice t33A t33N t33C, .slice t33A1 t33N1 t33C1, .slice t33A2 t33N2 t33C2], .int .i64 t33]) ∧
 newBlk w4 (.cells #[.slice none 0 0, .slice none 0 0, .slice none 0 0] 42 (0, 0)) fun b1 w5 =>
 storeC w5 b1 0 [.slice t33A t33N t33C, .slice t33A1 t33N1 t33C1, .slice t33A2 t33N2 t33C2] fun w6 =>
 Calls Try.prog 22 #[] w6 (fun e w7 => ∃ t36 : Bool, e = .returned (.bool t36) ∧
 br (!t36) (
 R (.bool false) w7) (
 br (t28 != t33) (
 R (.bool false) w7) (
 br (!(((t28P : Option Addr).isNone) == (t28 != 0))) (
 R (.bool false) w7) (
 br ((t28P : Option Addr).isNone) (
 R (.bool true) w7) (
 ∃ I : Nat → Int → World → Prop, (∃ n, I n 0 w7) ∧ ∀ (n9 : Nat) (dead : Nat → Value) (w8 : World) (i : Int), I n9 i w8 →
 purlinlaw17_ProcPlays.L0 callsA callsN R t28P b1 dead i w8 (fun x0 w9 => ∃ m, m < n9 ∧ I m x0 w9))))))))

theorem purlinlaw17_ProcPlays.vc (priosA : Option Addr) (priosN : Nat) (priosC : Nat) (callsA : Option Addr) (callsN : Nat) (callsC : Nat) (w : World) (R : Value → World → Prop) : fnVC Try.prog purlinlaw17_ProcPlays.A Try.f4 [.slice priosA priosN priosC, .slice callsA callsN callsC] w R = purlinlaw17_ProcPlays.F priosA priosN priosC callsA callsN callsC w R := by kernel_rfl
theorem purlinlaw17_ProcPlays.calls (priosA : Option Addr) (priosN : Nat) (priosC : Nat) (callsA : Option Addr) (callsN : Nat) (callsC : Nat) (w : World) (R : Value → World → Prop) (h : purlinlaw17_ProcPlays.F priosA priosN priosC callsA callsN callsC w R) : Calls Try.prog 4 #[.slice priosA priosN priosC, .slice callsA callsN callsC] w (Ret R) :=
  calls_of_vc mixed Try.func4 (Eq.mpr (purlinlaw17_ProcPlays.vc priosA priosN priosC callsA callsN callsC w R) h)

end Go.Proofs.Ytecacohkkdhphaa
