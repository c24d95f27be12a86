/- Printed by vcgen.py: of each function of this text its weakest precondition as a formula, and that it is one. Conditions: none. -/
import Derived.Test.YtecacohkkdhphaaVcCode
import Derived.Test.YtecacohkkdhphaaVcMem
import Derived.Test.YtecacohkkdhphaaChecked
namespace Go.Proofs.Ytecacohkkdhphaa
open Go.Vc
set_option linter.unusedVariables false
set_option maxRecDepth 100000

/-! ### purlin/purlinlaw17.ProcAnew: function 8 -/
def purlinlaw17_ProcAnew.A : Ann where
  sched := fun i => match i with
    | 14 => some ((some 6144), .still 0 false 26 <| .still 1 false 25 <| .still 3 true 23 <| .still 4 true 15 <| .eff 2 <| .eff 5 <| .still 6 false 63 <| .still 7 false 127 <| .still 8 false 1279 <| .still 10 true 1023 <| .eff 9 <| .eff 11 <| .eff 12 <| .still 13 false 8191 <| .still 14 false 16383 <| .done)
    | _ => none
  loop := fun i => match i with
    | 6 => some [(11, some (.one (.int .i64))), (55, none), (56, none), (57, none), (58, none), (59, none), (60, none), (61, none), (62, none), (63, none), (64, none), (65, none), (66, none), (67, none), (68, none), (69, none), (70, none), (71, none)]
    | 11 => some [(6, none), (12, some (.one (.int .i64))), (13, none), (14, none), (15, none), (16, none), (17, none), (18, none), (19, none), (74, none), (75, none), (76, none), (77, none), (78, none), (79, none), (80, none), (81, none), (82, none), (83, none), (84, none), (85, none), (86, none), (87, none), (88, none), (89, none), (90, none), (91, none), (92, none), (93, none), (94, none), (95, none), (96, none), (97, none), (98, none), (99, none), (100, none), (101, none), (102, none), (103, none), (104, none), (105, none), (106, none), (107, none), (108, none), (109, none), (110, none), (111, none), (112, none), (113, none), (114, none), (115, none), (116, none), (117, none), (118, none), (119, none), (120, none), (121, none), (122, none), (123, none), (124, none), (125, none), (126, none), (127, none), (128, none), (129, none), (130, none), (131, none), (132, none)]
    | _ => none

def purlinlaw17_ProcAnew.L1 (moreA : Option Addr) (moreN : Nat) (R : Value → World → Prop) (t22P : Option Addr) (t27P : Option Addr) (i1 : Int) (w12 : World) (Nx1 : Int → World → Prop) : Prop :=
 br (decide (i1 < ((moreN : Nat) : Int))) (
 br (decide (i1 < 40)) (
 0 ≤ (i1 : Int) ∧ i1 < ((moreN : Nat) : Int) ∧ okP moreA (
 ∃ t87 : Int, w12.cell? ⟨(pb moreA), po moreA + i1.toNat * 3, none⟩ = some (.int .i64 t87) ∧ ∃ t871 : Int, w12.cell? ⟨(pb moreA), po moreA + i1.toNat * 3 + 1, none⟩ = some (.int .i64 t871) ∧ ∃ t872 : Int, w12.cell? ⟨(pb moreA), po moreA + i1.toNat * 3 + 2, none⟩ = some (.int .i64 t872) ∧ 
 Calls Try.prog 23 #[.agg #[.int .i64 t87, .int .i64 t871, .int .i64 t872]] w12 (fun e w13 => ∃ t88 : Int, ∃ t881 : Int, ∃ t882 : Int, e = .returned (.agg #[.int .i64 t88, .int .i64 t881, .int .i64 t882]) ∧
 newBlk w13 (.cells #[.int .i64 0, .int .i64 0, .int .i64 0] 46 (0, 0)) fun b w14 =>
 storeC w14 b 0 [.int .i64 t88, .int .i64 t881, .int .i64 t882] fun w15 =>
 ∃ S : World → Prop, S w15.drew ∧ drawC w15 fun w16 =>
 ∃ t90 : Int, w16.cell? ⟨b, 0, none⟩ = some (.int .i64 t90) ∧ ∃ t901 : Int, w16.cell? ⟨b, 1, none⟩ = some (.int .i64 t901) ∧ ∃ t902 : Int, w16.cell? ⟨b, 2, none⟩ = some (.int .i64 t902) ∧ 
 ∃ t93 : Int, (∀ w9 : World, S w9 → w9.cell? ⟨b, 0, none⟩ = some (.int .i64 t93)) ∧ ∃ t931 : Int, (∀ w9 : World, S w9 → w9.cell? ⟨b, 1, none⟩ = some (.int .i64 t931)) ∧ ∃ t932 : Int, (∀ w9 : World, S w9 → w9.cell? ⟨b, 2, none⟩ = some (.int .i64 t932)) ∧ 
 Calls Try.prog 25 #[.pointer t22P, .agg #[.int .i64 t90, .int .i64 t901, .int .i64 t902]] w16 (fun e w17 => ∃ t91 : Int, e = .returned (.int .i64 t91) ∧
 S w17 ∧ Calls Try.prog 25 #[.pointer t27P, .agg #[.int .i64 t93, .int .i64 t931, .int .i64 t932]] w17 (fun e w18 => ∃ t94 : Int, e = .returned (.int .i64 t94) ∧
 S w18 ∧ br (t91 != t94) (
 R (.bool false) w18) (
 Calls Try.prog 30 #[.pointer t22P] w18 (fun e w20 => ∃ t98A : Option Addr, ∃ t98N : Nat, ∃ t98C : Nat, e = .returned (.slice t98A t98N t98C) ∧
 S w20 ∧ Calls Try.prog 30 #[.pointer t27P] w20 (fun e w21 => ∃ t100A : Option Addr, ∃ t100N : Nat, ∃ t100C : Nat, e = .returned (.slice t100A t100N t100C) ∧
 Calls Try.prog 29 #[.slice t98A t98N t98C, .slice t100A t100N t100C] w21 (fun e w22 => ∃ t101 : Bool, e = .returned (.bool t101) ∧
 br (!t101) (
 R (.bool false) w22) (
 ∃ t107 : Int, w22.cell? ⟨b, 1, none⟩ = some (.int .i64 t107) ∧
 Calls Try.prog 32 #[.pointer t22P, .int .i64 t107] w22 (fun e w23 => ∃ t108 : Int, ∃ t1081 : Bool, ∃ t1082 : Int, e = .returned (.tuple #[.int .i64 t108, .bool t1081, .int .i64 t1082]) ∧
 ∃ t115 : Int, w23.cell? ⟨b, 1, none⟩ = some (.int .i64 t115) ∧
 Calls Try.prog 32 #[.pointer t27P, .int .i64 t115] w23 (fun e w24 => ∃ t116 : Int, ∃ t1161 : Bool, ∃ t1162 : Int, e = .returned (.tuple #[.int .i64 t116, .bool t1161, .int .i64 t1162]) ∧
 br (t108 != t116) (
 R (.bool false) w24) (
 br (!(t1081 == t1161)) (
 R (.bool false) w24) (
 br (t1082 != t1162) (
 R (.bool false) w24) (
 Nx1 (IntKind.wrap .i64 (i1 + 1)) w24))))))))))))))) (
 R (.bool true) w12)) (
 R (.bool true) w12)

def purlinlaw17_ProcAnew.K0 (moreA : Option Addr) (moreN : Nat) (R : Value → World → Prop) (t22P : Option Addr) (t27P : Option Addr) (w8 : World) : Prop :=
 Calls Try.prog 34 #[.pointer t22P] w8 (fun e w11 => e = .returned (.tuple #[]) ∧
 ∃ I : Nat → Int → World → Prop, (∃ n, I n 0 w11) ∧ ∀ (n9 : Nat) (dead : Nat → Value) (w12 : World) (i1 : Int), I n9 i1 w12 →
 purlinlaw17_ProcAnew.L1 moreA moreN R t22P t27P i1 w12 (fun x0 w9 => ∃ m, m < n9 ∧ I m x0 w9))

def purlinlaw17_ProcAnew.L0 (callsA : Option Addr) (callsN : Nat) (moreA : Option Addr) (moreN : Nat) (R : Value → World → Prop) (t22P : Option Addr) (t27P : Option Addr) (i : Int) (w8 : World) (Nx0 : Int → World → Prop) : Prop :=
 br (decide (i < ((callsN : Nat) : Int))) (
 br (decide (i < 40)) (
 0 ≤ (i : Int) ∧ i < ((callsN : Nat) : Int) ∧ okP callsA (
 ∃ t69 : Int, w8.cell? ⟨(pb callsA), po callsA + i.toNat * 3, none⟩ = some (.int .i64 t69) ∧ ∃ t691 : Int, w8.cell? ⟨(pb callsA), po callsA + i.toNat * 3 + 1, none⟩ = some (.int .i64 t691) ∧ ∃ t692 : Int, w8.cell? ⟨(pb callsA), po callsA + i.toNat * 3 + 2, none⟩ = some (.int .i64 t692) ∧ 
 Calls Try.prog 23 #[.agg #[.int .i64 t69, .int .i64 t691, .int .i64 t692]] w8 (fun e w9 => ∃ t70 : Int, ∃ t701 : Int, ∃ t702 : Int, e = .returned (.agg #[.int .i64 t70, .int .i64 t701, .int .i64 t702]) ∧
 Calls Try.prog 25 #[.pointer t22P, .agg #[.int .i64 t70, .int .i64 t701, .int .i64 t702]] w9 (fun e w10 => ∃ t71 : Int, e = .returned (.int .i64 t71) ∧
 Nx0 (IntKind.wrap .i64 (i + 1)) w10)))) (
 purlinlaw17_ProcAnew.K0 moreA moreN R t22P t27P w8)) (
 purlinlaw17_ProcAnew.K0 moreA moreN R t22P t27P w8)

def purlinlaw17_ProcAnew.F (priosA : Option Addr) (priosN : Nat) (priosC : Nat) (callsA : Option Addr) (callsN : Nat) (callsC : Nat) (moreA : Option Addr) (moreN : Nat) (moreC : Nat) (w : World) (R : Value → World → Prop) : Prop :=
 Calls Try.prog 20 #[.slice priosA priosN priosC] w (fun e w1 => ∃ t22P : Option Addr, ∃ t22 : Int, e = .returned (.tuple #[.pointer t22P, .int .i64 t22]) ∧
 Calls Try.prog 20 #[.slice priosA priosN priosC] w1 (fun e w2 => ∃ t27P : Option Addr, ∃ t27 : Int, e = .returned (.tuple #[.pointer t27P, .int .i64 t27]) ∧
 Calls Try.prog 22 #[] w2 (fun e w3 => ∃ t30 : Bool, e = .returned (.bool t30) ∧
 br (!t30) (
 Calls Try.prog 22 #[] w3 (fun e w4 => ∃ t49 : Bool, e = .returned (.bool t49) ∧
 br t49 (
 R (.bool (t22 == t27)) w4) (
 R (.bool false) w4))) (
 br (t22 != t27) (
 Calls Try.prog 22 #[] w3 (fun e w4 => ∃ t49 : Bool, e = .returned (.bool t49) ∧
 br t49 (
 R (.bool (t22 == t27)) w4) (
 R (.bool false) w4))) (
 br (t22 != 0) (
 Calls Try.prog 22 #[] w3 (fun e w4 => ∃ t49 : Bool, e = .returned (.bool t49) ∧
 br t49 (
 R (.bool (t22 == t27)) w4) (
 R (.bool false) w4))) (
 br ((t22P : Option Addr).isNone) (
 Calls Try.prog 22 #[] w3 (fun e w4 => ∃ t49 : Bool, e = .returned (.bool t49) ∧
 br t49 (
 R (.bool (t22 == t27)) w4) (
 R (.bool false) w4))) (
 br ((t27P : Option Addr).isNone) (
 Calls Try.prog 22 #[] w3 (fun e w7 => ∃ t491 : Bool, e = .returned (.bool t491) ∧
 br t491 (
 R (.bool (t22 == t27)) w7) (
 R (.bool false) w7))) (
 ∃ I : Nat → Int → World → Prop, (∃ n, I n 0 w3) ∧ ∀ (n9 : Nat) (dead : Nat → Value) (w8 : World) (i : Int), I n9 i w8 →
 purlinlaw17_ProcAnew.L0 callsA callsN moreA moreN R t22P t27P i w8 (fun x0 w9 => ∃ m, m < n9 ∧ I m x0 w9)))))))))

theorem purlinlaw17_ProcAnew.vc (priosA : Option Addr) (priosN : Nat) (priosC : Nat) (callsA : Option Addr) (callsN : Nat) (callsC : Nat) (moreA : Option Addr) (moreN : Nat) (moreC : Nat) (w : World) (R : Value → World → Prop) : fnVC Try.prog purlinlaw17_ProcAnew.A Try.f8 [.slice priosA priosN priosC, .slice callsA callsN callsC, .slice moreA moreN moreC] w R = purlinlaw17_ProcAnew.F priosA priosN priosC callsA callsN callsC moreA moreN moreC w R := by kernel_rfl
theorem purlinlaw17_ProcAnew.calls (priosA : Option Addr) (priosN : Nat) (priosC : Nat) (callsA : Option Addr) (callsN : Nat) (callsC : Nat) (moreA : Option Addr) (moreN : Nat) (moreC : Nat) (w : World) (R : Value → World → Prop) (h : purlinlaw17_ProcAnew.F priosA priosN priosC callsA callsN callsC moreA moreN moreC w R) : Calls Try.prog 8 #[.slice priosA priosN priosC, .slice callsA callsN callsC, .slice moreA moreN moreC] w (Ret R) :=
  calls_of_vc mixed Try.func8 (Eq.mpr (purlinlaw17_ProcAnew.vc priosA priosN priosC callsA callsN callsC moreA moreN moreC w R) h)

end Go.Proofs.Ytecacohkkdhphaa
