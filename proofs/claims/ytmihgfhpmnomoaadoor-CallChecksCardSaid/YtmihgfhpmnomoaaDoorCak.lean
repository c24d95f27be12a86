/- Printed by vcgen.py: of each function of this text its weakest precondition as a formula, and that it is one. Conditions: none. -/
import Derived.Test.YtmihgfhpmnomoaaDoorVcCode
import Derived.Test.YtmihgfhpmnomoaaDoorVcMem
import Derived.Test.YtmihgfhpmnomoaaDoorChecked
namespace Go.Proofs.YtmihgfhpmnomoaaDoor
open Go.Vc
set_option linter.unusedVariables false
set_option maxRecDepth 100000

/-! ### purlin/purlinref21.Check: function 19 -/
def purlinref21_Check.A : Ann where
  sched := fun i => match i with
    | 18 => some (none, .still 0 false 1000 <| .still 1 false 1001 <| .still 2 false 1003 <| .still 3 false 999 <| .still 4 false 1007 <| .still 5 false 1311 <| .still 6 false 1343 <| .still 7 false 1407 <| .still 8 false 1279 <| .still 9 false 1535 <| .still 10 false 1023 <| .still 11 false 2047 <| .done)
    | _ => none
  loop := fun i => match i with
    | _ => none
  join := fun i => match i with
    | 9 => some [(6, none), (37, none), (38, none), (39, none), (40, none), (41, none), (42, none), (43, none), (44, none), (45, none), (46, none), (47, none), (48, none)]
    | 10 => some [(10, some (.one (.bool))), (49, none), (50, none), (51, none), (52, none), (53, none), (54, none), (55, none), (56, none), (57, none), (58, none)]
    | 11 => some [(11, some (.one (.bool))), (59, none), (60, none), (61, none), (62, none), (63, none), (64, none)]
    | 15 => some [(6, none), (75, none), (76, none), (77, none), (78, none), (79, none), (80, none), (81, none), (82, none), (83, none), (84, none), (85, none)]
    | 18 => some [(6, none), (92, none), (93, none), (94, none), (95, none), (96, none), (97, none), (98, none), (99, none), (100, none), (101, none), (102, none), (103, none), (104, none), (105, none)]
    | 20 => some [(15, some (.one (.bool))), (116, none), (117, none), (118, none), (119, none), (120, none), (121, none)]
    | 21 => some [(16, some (.one (.bool))), (122, none), (123, none), (124, none), (125, none), (126, none), (127, none)]
    | _ => none

def purlinref21_Check.K0 (part : Int) (R : Value → World → Prop) (b : Nat) (b1 : Nat) (t34 : ByteArray) (queue : Bool) (sample : Bool) (w7 : World) : Prop :=
 ∃ J3 : World → Prop,
 (∃ t76 : Int, w7.cell? ⟨b1, 1, none⟩ = some (.int .i64 t76) ∧
 br (decide (t76 < 0)) (
 R (.int .i64 221) w7) (
 ∃ t80 : Int, w7.cell? ⟨b1, 1, none⟩ = some (.int .i64 t80) ∧
 ∃ t82A : Option Addr, ∃ t82N : Nat, ∃ t82C : Nat, w7.cell? ⟨b, 3, none⟩ = some (.slice t82A t82N t82C) ∧
 br (decide (t80 ≥ ((t82N : Nat) : Int))) (
 R (.int .i64 221) w7) (
 J3 w7))) ∧
 ∀ (dead : Nat → Value) (w8 : World), J3 w8 →
 ∃ t87A : Option Addr, ∃ t87N : Nat, ∃ t87C : Nat, w8.cell? ⟨b, 3, none⟩ = some (.slice t87A t87N t87C) ∧
 ∃ t89 : Int, w8.cell? ⟨b1, 1, none⟩ = some (.int .i64 t89) ∧
 0 ≤ (t89 : Int) ∧ t89 < ((t87N : Nat) : Int) ∧ okP t87A (
 ∃ t91 : Int, w8.cell? ⟨(pb t87A), po t87A + t89.toNat * 6, none⟩ = some (.int .u8 t91) ∧ ∃ t911 : Int, w8.cell? ⟨(pb t87A), po t87A + t89.toNat * 6 + 1, none⟩ = some (.int .u8 t911) ∧ ∃ t912 : Int, w8.cell? ⟨(pb t87A), po t87A + t89.toNat * 6 + 2, none⟩ = some (.int .u8 t912) ∧ ∃ t913 : Int, w8.cell? ⟨(pb t87A), po t87A + t89.toNat * 6 + 3, none⟩ = some (.int .u8 t913) ∧ ∃ t914 : Int, w8.cell? ⟨(pb t87A), po t87A + t89.toNat * 6 + 4, none⟩ = some (.int .u8 t914) ∧ ∃ t915 : Int, w8.cell? ⟨(pb t87A), po t87A + t89.toNat * 6 + 5, none⟩ = some (.int .u16 t915) ∧ 
 newBlk w8 (.cells #[.int .u8 0, .int .u8 0, .int .u8 0, .int .u8 0, .int .u8 0, .int .u16 0] 49 (0, 0)) fun b2 w9 =>
 storeC w9 b2 0 [.int .u8 t91, .int .u8 t911, .int .u8 t912, .int .u8 t913, .int .u8 t914, .int .u16 t915] fun w10 =>
 ∃ J4 : World → Prop,
 (br queue (
 ∃ t95 : Int, w10.cell? ⟨b2, 0, none⟩ = some (.int .u8 t95) ∧
 br (t95 != 0) (
 R (.int .i64 190) w10) (
 br sample (
 ∃ t102 : Int, w10.cell? ⟨b2, 0, none⟩ = some (.int .u8 t102) ∧
 br (t102 != 1) (
 R (.int .i64 190) w10) (
 J4 w10)) (
 J4 w10))) (
 br sample (
 ∃ t1021 : Int, w10.cell? ⟨b2, 0, none⟩ = some (.int .u8 t1021) ∧
 br (t1021 != 1) (
 R (.int .i64 190) w10) (
 J4 w10)) (
 J4 w10))) ∧
 ∀ (dead : Nat → Value) (w11 : World), J4 w11 →
 drawC w11 fun w13 =>
 ∃ t107 : Int, w13.cell? ⟨b2, 1, none⟩ = some (.int .u8 t107) ∧
 ∃ t112 : Int, w13.cell? ⟨b2, 2, none⟩ = some (.int .u8 t112) ∧
 ∃ J5 : Bool → World → Prop,
 (br (t34.toList == (⟨#[115, 101, 110, 100]⟩ : ByteArray).toList) (
 J5 true w13) (
 J5 (t34.toList == (⟨#[119, 114, 105, 116, 101]⟩ : ByteArray).toList) w13)) ∧
 ∀ (dead : Nat → Value) (w14 : World) (out : Bool), J5 out w14 →
 ∃ J6 : Bool → World → Prop,
 (br (t34.toList == (⟨#[114, 101, 99, 101, 105, 118, 101]⟩ : ByteArray).toList) (
 J6 true w14) (
 J6 (t34.toList == (⟨#[114, 101, 97, 100]⟩ : ByteArray).toList) w14)) ∧
 ∀ (dead : Nat → Value) (w15 : World) (in1 : Bool), J6 in1 w15 →
 br out (
 br (!(IntKind.wrap .i64 t107 == part)) (
 R (.int .i64 222) w15) (
 br in1 (
 br (!(IntKind.wrap .i64 t112 == part)) (
 R (.int .i64 222) w15) (
 br (!out) (
 br (!in1) (
 br (!(IntKind.wrap .i64 t107 == part)) (
 br (!(IntKind.wrap .i64 t112 == part)) (
 R (.int .i64 222) w15) (
 R (.int .i64 0) w15)) (
 R (.int .i64 0) w15)) (
 R (.int .i64 0) w15)) (
 R (.int .i64 0) w15))) (
 br (!out) (
 br (!in1) (
 br (!(IntKind.wrap .i64 t107 == part)) (
 br (!(IntKind.wrap .i64 t112 == part)) (
 R (.int .i64 222) w15) (
 R (.int .i64 0) w15)) (
 R (.int .i64 0) w15)) (
 R (.int .i64 0) w15)) (
 R (.int .i64 0) w15)))) (
 br in1 (
 br (!(IntKind.wrap .i64 t112 == part)) (
 R (.int .i64 222) w15) (
 br (!out) (
 br (!in1) (
 br (!(IntKind.wrap .i64 t107 == part)) (
 br (!(IntKind.wrap .i64 t112 == part)) (
 R (.int .i64 222) w15) (
 R (.int .i64 0) w15)) (
 R (.int .i64 0) w15)) (
 R (.int .i64 0) w15)) (
 R (.int .i64 0) w15))) (
 br (!out) (
 br (!in1) (
 br (!(IntKind.wrap .i64 t107 == part)) (
 br (!(IntKind.wrap .i64 t112 == part)) (
 R (.int .i64 222) w15) (
 R (.int .i64 0) w15)) (
 R (.int .i64 0) w15)) (
 R (.int .i64 0) w15)) (
 R (.int .i64 0) w15))))

def purlinref21_Check.F (p : Int) (pA : Option Addr) (pN : Nat) (pC : Nat) (pA1 : Option Addr) (pN1 : Nat) (pC1 : Nat) (pA2 : Option Addr) (pN2 : Nat) (pC2 : Nat) (pA3 : Option Addr) (pN3 : Nat) (pC3 : Nat) (part : Int) (x : Int) (x1 : Int) (x2 : Int) (x3 : ByteArray) (w : World) (R : Value → World → Prop) : Prop :=
 newBlk w (.cells #[.int .u16 p, .slice pA pN pC, .slice pA1 pN1 pC1, .slice pA2 pN2 pC2, .slice pA3 pN3 pC3] 45 (0, 0)) fun b w1 =>
 newBlk w1 (.cells #[.int .i64 x, .int .i64 x1, .int .i64 x2, .string x3] 30 (0, 0)) fun b1 w2 =>
 br (decide (part < 0)) (
 R (.int .i64 231) w2) (
 ∃ t22A : Option Addr, ∃ t22N : Nat, ∃ t22C : Nat, w2.cell? ⟨b, 2, none⟩ = some (.slice t22A t22N t22C) ∧
 br (decide (part ≥ ((t22N : Nat) : Int))) (
 R (.int .i64 231) w2) (
 ∃ t26 : Int, w2.cell? ⟨b1, 0, none⟩ = some (.int .i64 t26) ∧ ∃ t261 : Int, w2.cell? ⟨b1, 1, none⟩ = some (.int .i64 t261) ∧ ∃ t262 : Int, w2.cell? ⟨b1, 2, none⟩ = some (.int .i64 t262) ∧ ∃ t263 : ByteArray, w2.cell? ⟨b1, 3, none⟩ = some (.string t263) ∧ 
 Calls Tryd.prog 23 #[.agg #[.int .i64 t26, .int .i64 t261, .int .i64 t262, .string t263]] w2 (fun e w3 => ∃ t27 : Int, e = .returned (.int .i64 t27) ∧
 br (t27 != 0) (
 R (.int .i64 t27) w3) (
 ∃ t33 : Int, w3.cell? ⟨b1, 0, none⟩ = some (.int .i64 t33) ∧
 Calls Tryd.prog 9 #[.int .i64 t33] w3 (fun e w4 => ∃ t34 : ByteArray, ∃ t341 : Int, e = .returned (.tuple #[.string t34, .int .i64 t341]) ∧
 ∃ J0 : World → Prop,
 (br (t34.toList == (⟨#[102, 97, 117, 108, 116]⟩ : ByteArray).toList) (
 ∃ t41 : Int, w4.cell? ⟨b1, 1, none⟩ = some (.int .i64 t41) ∧
 br (decide (t41 < 0)) (
 R (.int .i64 181) w4) (
 ∃ t45 : Int, w4.cell? ⟨b1, 1, none⟩ = some (.int .i64 t45) ∧
 br (decide (t45 > 2)) (
 R (.int .i64 181) w4) (
 J0 w4))) (
 J0 w4)) ∧
 ∀ (dead : Nat → Value) (w5 : World), J0 w5 →
 ∃ J1 : Bool → World → Prop,
 (br (t34.toList == (⟨#[115, 101, 110, 100]⟩ : ByteArray).toList) (
 J1 true w5) (
 br (t34.toList == (⟨#[114, 101, 99, 101, 105, 118, 101]⟩ : ByteArray).toList) (
 J1 true w5) (
 J1 (t34.toList == (⟨#[112, 111, 114, 116, 114, 111, 111, 109]⟩ : ByteArray).toList) w5))) ∧
 ∀ (dead : Nat → Value) (w6 : World) (queue : Bool), J1 queue w6 →
 ∃ J2 : Bool → World → Prop,
 (br (t34.toList == (⟨#[119, 114, 105, 116, 101]⟩ : ByteArray).toList) (
 J2 true w6) (
 J2 (t34.toList == (⟨#[114, 101, 97, 100]⟩ : ByteArray).toList) w6)) ∧
 ∀ (dead : Nat → Value) (w7 : World) (sample : Bool), J2 sample w7 →
 br (!queue) (
 br (!sample) (
 br (!(t34.toList == (⟨#[112, 111, 114, 116, 108, 101, 110]⟩ : ByteArray).toList)) (
 R (.int .i64 0) w7) (
 purlinref21_Check.K0 part R b b1 t34 queue sample w7)) (
 purlinref21_Check.K0 part R b b1 t34 queue sample w7)) (
 purlinref21_Check.K0 part R b b1 t34 queue sample w7))))))

theorem purlinref21_Check.vc (p : Int) (pA : Option Addr) (pN : Nat) (pC : Nat) (pA1 : Option Addr) (pN1 : Nat) (pC1 : Nat) (pA2 : Option Addr) (pN2 : Nat) (pC2 : Nat) (pA3 : Option Addr) (pN3 : Nat) (pC3 : Nat) (part : Int) (x : Int) (x1 : Int) (x2 : Int) (x3 : ByteArray) (w : World) (R : Value → World → Prop) : fnVC Tryd.prog purlinref21_Check.A Tryd.f19 [.agg #[.int .u16 p, .slice pA pN pC, .slice pA1 pN1 pC1, .slice pA2 pN2 pC2, .slice pA3 pN3 pC3], .int .i64 part, .agg #[.int .i64 x, .int .i64 x1, .int .i64 x2, .string x3]] w R = purlinref21_Check.F p pA pN pC pA1 pN1 pC1 pA2 pN2 pC2 pA3 pN3 pC3 part x x1 x2 x3 w R := by kernel_rfl
theorem purlinref21_Check.calls (p : Int) (pA : Option Addr) (pN : Nat) (pC : Nat) (pA1 : Option Addr) (pN1 : Nat) (pC1 : Nat) (pA2 : Option Addr) (pN2 : Nat) (pC2 : Nat) (pA3 : Option Addr) (pN3 : Nat) (pC3 : Nat) (part : Int) (x : Int) (x1 : Int) (x2 : Int) (x3 : ByteArray) (w : World) (R : Value → World → Prop) (h : purlinref21_Check.F p pA pN pC pA1 pN1 pC1 pA2 pN2 pC2 pA3 pN3 pC3 part x x1 x2 x3 w R) : Calls Tryd.prog 19 #[.agg #[.int .u16 p, .slice pA pN pC, .slice pA1 pN1 pC1, .slice pA2 pN2 pC2, .slice pA3 pN3 pC3], .int .i64 part, .agg #[.int .i64 x, .int .i64 x1, .int .i64 x2, .string x3]] w (Ret R) :=
  calls_of_vc mixed Tryd.func19 (Eq.mpr (purlinref21_Check.vc p pA pN pC pA1 pN1 pC1 pA2 pN2 pC2 pA3 pN3 pC3 part x x1 x2 x3 w R) h)

end Go.Proofs.YtmihgfhpmnomoaaDoor
