/- Printed by vcgen.py: of each function of this text its weakest precondition as a formula, and that it is one. Conditions: none. -/
import Derived.Test.YtmihgfhpmnomoaaDoorVcCode
import Derived.Test.YtmihgfhpmnomoaaDoorVcMem
import Derived.Test.YtmihgfhpmnomoaaDoorChecked
namespace Go.Proofs.YtmihgfhpmnomoaaDoor
open Go.Vc
set_option linter.unusedVariables false
set_option maxRecDepth 100000

/-! ### purlin/purlinlaw21.CallRights: function 8 -/
def purlinlaw21_CallRights.A : Ann where
  sched := fun i => match i with
    | _ => none
  loop := fun i => match i with
    | _ => none

def purlinlaw21_CallRights.F (p : Int) (pA : Option Addr) (pN : Nat) (pC : Nat) (pA1 : Option Addr) (pN1 : Nat) (pC1 : Nat) (pA2 : Option Addr) (pN2 : Nat) (pC2 : Nat) (pA3 : Option Addr) (pN3 : Nat) (pC3 : Nat) (part : Int) (x : Int) (x1 : Int) (x2 : Int) (x3 : ByteArray) (w : World) (R : Value → World → Prop) : Prop :=
 newBlk w (.cells #[.int .u16 p, .slice pA pN pC, .slice pA1 pN1 pC1, .slice pA2 pN2 pC2, .slice pA3 pN3 pC3] 45 (0, 0)) fun b w1 =>
 newBlk w1 (.cells #[.int .i64 x, .int .i64 x1, .int .i64 x2, .string x3] 30 (0, 0)) fun b1 w2 =>
 ∃ t8 : Int, w2.cell? ⟨b1, 0, none⟩ = some (.int .i64 t8) ∧ ∃ t81 : Int, w2.cell? ⟨b1, 1, none⟩ = some (.int .i64 t81) ∧ ∃ t82 : Int, w2.cell? ⟨b1, 2, none⟩ = some (.int .i64 t82) ∧ ∃ t83 : ByteArray, w2.cell? ⟨b1, 3, none⟩ = some (.string t83) ∧ 
 Calls Tryd.prog 13 #[.agg #[.int .i64 t8, .int .i64 t81, .int .i64 t82, .string t83]] w2 (fun e w3 => ∃ t9 : Bool, e = .returned (.bool t9) ∧
 br (!t9) (
 Calls Tryd.prog 12 #[] w3 (fun e w4 => ∃ t23 : Bool, e = .returned (.bool t23) ∧
 R (.bool t23) w4)) (
 ∃ t13A : Option Addr, ∃ t13N : Nat, ∃ t13C : Nat, w3.cell? ⟨b, 2, none⟩ = some (.slice t13A t13N t13C) ∧
 br (decide (((t13N : Nat) : Int) > 100)) (
 Calls Tryd.prog 12 #[] w3 (fun e w4 => ∃ t23 : Bool, e = .returned (.bool t23) ∧
 R (.bool t23) w4)) (
 ∃ t19A : Option Addr, ∃ t19N : Nat, ∃ t19C : Nat, w3.cell? ⟨b, 3, none⟩ = some (.slice t19A t19N t19C) ∧
 br (decide (((t19N : Nat) : Int) > 100)) (
 Calls Tryd.prog 12 #[] w3 (fun e w6 => ∃ t231 : Bool, e = .returned (.bool t231) ∧
 R (.bool t231) w6)) (
 Calls Tryd.prog 12 #[] w3 (fun e w7 => ∃ t24 : Bool, e = .returned (.bool t24) ∧
 br (!t24) (
 Calls Tryd.prog 12 #[] w7 (fun e w8 => ∃ t33 : Bool, e = .returned (.bool t33) ∧
 R (.bool t33) w8)) (
 ∃ t27 : Int, w7.cell? ⟨b, 0, none⟩ = some (.int .u16 t27) ∧ ∃ t27A : Option Addr, ∃ t27N : Nat, ∃ t27C : Nat, w7.cell? ⟨b, 1, none⟩ = some (.slice t27A t27N t27C) ∧ ∃ t27A1 : Option Addr, ∃ t27N1 : Nat, ∃ t27C1 : Nat, w7.cell? ⟨b, 2, none⟩ = some (.slice t27A1 t27N1 t27C1) ∧ ∃ t27A2 : Option Addr, ∃ t27N2 : Nat, ∃ t27C2 : Nat, w7.cell? ⟨b, 3, none⟩ = some (.slice t27A2 t27N2 t27C2) ∧ ∃ t27A3 : Option Addr, ∃ t27N3 : Nat, ∃ t27C3 : Nat, w7.cell? ⟨b, 4, none⟩ = some (.slice t27A3 t27N3 t27C3) ∧ 
 ∃ t29 : Int, w7.cell? ⟨b1, 0, none⟩ = some (.int .i64 t29) ∧ ∃ t291 : Int, w7.cell? ⟨b1, 1, none⟩ = some (.int .i64 t291) ∧ ∃ t292 : Int, w7.cell? ⟨b1, 2, none⟩ = some (.int .i64 t292) ∧ ∃ t293 : ByteArray, w7.cell? ⟨b1, 3, none⟩ = some (.string t293) ∧ 
 Calls Tryd.prog 18 #[.agg #[.int .u16 t27, .slice t27A t27N t27C, .slice t27A1 t27N1 t27C1, .slice t27A2 t27N2 t27C2, .slice t27A3 t27N3 t27C3], .int .i64 part, .agg #[.int .i64 t29, .int .i64 t291, .int .i64 t292, .string t293]] w7 (fun e w10 => ∃ t30 : Int, e = .returned (.int .i64 t30) ∧
 br (t30 != 0) (
 Calls Tryd.prog 12 #[] w10 (fun e w11 => ∃ t331 : Bool, e = .returned (.bool t331) ∧
 R (.bool t331) w11)) (
 ∃ t35 : Int, w10.cell? ⟨b1, 0, none⟩ = some (.int .i64 t35) ∧
 br (decide (t35 < 1)) (
 R (.bool false) w10) (
 ∃ t39 : Int, w10.cell? ⟨b1, 0, none⟩ = some (.int .i64 t39) ∧
 br (decide (t39 > 30)) (
 R (.bool false) w10) (
 br (decide (part < 0)) (
 R (.bool false) w10) (
 ∃ t49A : Option Addr, ∃ t49N : Nat, ∃ t49C : Nat, w10.cell? ⟨b, 2, none⟩ = some (.slice t49A t49N t49C) ∧
 br (decide (part ≥ ((t49N : Nat) : Int))) (
 R (.bool false) w10) (
 ∃ t54 : Int, w10.cell? ⟨b1, 0, none⟩ = some (.int .i64 t54) ∧
 br (decide (t54 < 23)) (
 ∃ t62 : ByteArray, w10.cell? ⟨b1, 3, none⟩ = some (.string t62) ∧
 R (.bool (t62.toList == (⟨#[]⟩ : ByteArray).toList)) w10) (
 ∃ t58 : Int, w10.cell? ⟨b1, 0, none⟩ = some (.int .i64 t58) ∧
 br (decide (t58 > 28)) (
 ∃ t621 : ByteArray, w10.cell? ⟨b1, 3, none⟩ = some (.string t621) ∧
 R (.bool (t621.toList == (⟨#[]⟩ : ByteArray).toList)) w10) (
 ∃ t65 : Int, w10.cell? ⟨b1, 1, none⟩ = some (.int .i64 t65) ∧
 br (decide (t65 < 0)) (
 R (.bool false) w10) (
 ∃ t69 : Int, w10.cell? ⟨b1, 1, none⟩ = some (.int .i64 t69) ∧
 ∃ t71A : Option Addr, ∃ t71N : Nat, ∃ t71C : Nat, w10.cell? ⟨b, 3, none⟩ = some (.slice t71A t71N t71C) ∧
 br (decide (t69 ≥ ((t71N : Nat) : Int))) (
 R (.bool false) w10) (
 ∃ t76A : Option Addr, ∃ t76N : Nat, ∃ t76C : Nat, w10.cell? ⟨b, 3, none⟩ = some (.slice t76A t76N t76C) ∧
 ∃ t78 : Int, w10.cell? ⟨b1, 1, none⟩ = some (.int .i64 t78) ∧
 0 ≤ (t78 : Int) ∧ t78 < ((t76N : Nat) : Int) ∧ okP t76A (
 ∃ t80 : Int, w10.cell? ⟨(pb t76A), po t76A + t78.toNat * 6, none⟩ = some (.int .u8 t80) ∧ ∃ t801 : Int, w10.cell? ⟨(pb t76A), po t76A + t78.toNat * 6 + 1, none⟩ = some (.int .u8 t801) ∧ ∃ t802 : Int, w10.cell? ⟨(pb t76A), po t76A + t78.toNat * 6 + 2, none⟩ = some (.int .u8 t802) ∧ ∃ t803 : Int, w10.cell? ⟨(pb t76A), po t76A + t78.toNat * 6 + 3, none⟩ = some (.int .u8 t803) ∧ ∃ t804 : Int, w10.cell? ⟨(pb t76A), po t76A + t78.toNat * 6 + 4, none⟩ = some (.int .u8 t804) ∧ ∃ t805 : Int, w10.cell? ⟨(pb t76A), po t76A + t78.toNat * 6 + 5, none⟩ = some (.int .u16 t805) ∧ 
 newBlk w10 (.cells #[.int .u8 0, .int .u8 0, .int .u8 0, .int .u8 0, .int .u8 0, .int .u16 0] 49 (0, 0)) fun b2 w13 =>
 storeC w13 b2 0 [.int .u8 t80, .int .u8 t801, .int .u8 t802, .int .u8 t803, .int .u8 t804, .int .u16 t805] fun w14 =>
 ∃ t821 : Int, w14.cell? ⟨b1, 0, none⟩ = some (.int .i64 t821) ∧
 br (t821 == 23) (
 ∃ t90 : Int, w14.cell? ⟨b2, 1, none⟩ = some (.int .u8 t90) ∧
 R (.bool (IntKind.wrap .i64 t90 == part)) w14) (
 ∃ t86 : Int, w14.cell? ⟨b1, 0, none⟩ = some (.int .i64 t86) ∧
 br (t86 == 25) (
 ∃ t901 : Int, w14.cell? ⟨b2, 1, none⟩ = some (.int .u8 t901) ∧
 R (.bool (IntKind.wrap .i64 t901 == part)) w14) (
 ∃ t95 : Int, w14.cell? ⟨b1, 0, none⟩ = some (.int .i64 t95) ∧
 br (t95 == 24) (
 ∃ t103 : Int, w14.cell? ⟨b2, 2, none⟩ = some (.int .u8 t103) ∧
 R (.bool (IntKind.wrap .i64 t103 == part)) w14) (
 ∃ t99 : Int, w14.cell? ⟨b1, 0, none⟩ = some (.int .i64 t99) ∧
 br (t99 == 26) (
 ∃ t1031 : Int, w14.cell? ⟨b2, 2, none⟩ = some (.int .u8 t1031) ∧
 R (.bool (IntKind.wrap .i64 t1031 == part)) w14) (
 ∃ t108 : Int, w14.cell? ⟨b2, 1, none⟩ = some (.int .u8 t108) ∧
 br (IntKind.wrap .i64 t108 == part) (
 R (.bool true) w14) (
 ∃ t114 : Int, w14.cell? ⟨b2, 2, none⟩ = some (.int .u8 t114) ∧
 R (.bool (IntKind.wrap .i64 t114 == part)) w14))))))))))))))))))))))

theorem purlinlaw21_CallRights.vc (p : Int) (pA : Option Addr) (pN : Nat) (pC : Nat) (pA1 : Option Addr) (pN1 : Nat) (pC1 : Nat) (pA2 : Option Addr) (pN2 : Nat) (pC2 : Nat) (pA3 : Option Addr) (pN3 : Nat) (pC3 : Nat) (part : Int) (x : Int) (x1 : Int) (x2 : Int) (x3 : ByteArray) (w : World) (R : Value → World → Prop) : fnVC Tryd.prog purlinlaw21_CallRights.A Tryd.f8 [.agg #[.int .u16 p, .slice pA pN pC, .slice pA1 pN1 pC1, .slice pA2 pN2 pC2, .slice pA3 pN3 pC3], .int .i64 part, .agg #[.int .i64 x, .int .i64 x1, .int .i64 x2, .string x3]] w R = purlinlaw21_CallRights.F p pA pN pC pA1 pN1 pC1 pA2 pN2 pC2 pA3 pN3 pC3 part x x1 x2 x3 w R := by kernel_rfl
theorem purlinlaw21_CallRights.calls (p : Int) (pA : Option Addr) (pN : Nat) (pC : Nat) (pA1 : Option Addr) (pN1 : Nat) (pC1 : Nat) (pA2 : Option Addr) (pN2 : Nat) (pC2 : Nat) (pA3 : Option Addr) (pN3 : Nat) (pC3 : Nat) (part : Int) (x : Int) (x1 : Int) (x2 : Int) (x3 : ByteArray) (w : World) (R : Value → World → Prop) (h : purlinlaw21_CallRights.F p pA pN pC pA1 pN1 pC1 pA2 pN2 pC2 pA3 pN3 pC3 part x x1 x2 x3 w R) : Calls Tryd.prog 8 #[.agg #[.int .u16 p, .slice pA pN pC, .slice pA1 pN1 pC1, .slice pA2 pN2 pC2, .slice pA3 pN3 pC3], .int .i64 part, .agg #[.int .i64 x, .int .i64 x1, .int .i64 x2, .string x3]] w (Ret R) :=
  calls_of_vc mixed Tryd.func8 (Eq.mpr (purlinlaw21_CallRights.vc p pA pN pC pA1 pN1 pC1 pA2 pN2 pC2 pA3 pN3 pC3 part x x1 x2 x3 w R) h)

end Go.Proofs.YtmihgfhpmnomoaaDoor
