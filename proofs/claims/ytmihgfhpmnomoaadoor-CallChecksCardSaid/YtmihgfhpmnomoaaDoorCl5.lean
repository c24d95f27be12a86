/- Printed by vcgen.py: of each function of this text its weakest precondition as a formula, and that it is one. Conditions: none. -/
import Derived.Test.YtmihgfhpmnomoaaDoorVcCode
import Derived.Test.YtmihgfhpmnomoaaDoorVcMem
import Derived.Test.YtmihgfhpmnomoaaDoorChecked
namespace Go.Proofs.YtmihgfhpmnomoaaDoor
open Go.Vc
set_option linter.unusedVariables false
set_option maxRecDepth 100000

/-! ### purlin/purlinlaw21.CallChecks: function 7 -/
def purlinlaw21_CallChecks.A : Ann where
  sched := fun i => match i with
    | 3 => some ((some 512), .eff 0 <| .still 1 false 1 <| .still 2 false 475 <| .still 3 false 471 <| .still 4 false 463 <| .still 7 true 383 <| .still 6 true 447 <| .still 8 true 255 <| .eff 5 <| .eff 9 <| .still 10 false 1023 <| .still 11 false 2047 <| .still 12 false 4095 <| .done)
    | _ => none
  loop := fun i => match i with
    | _ => none

def purlinlaw21_CallChecks.F (p : Int) (pA : Option Addr) (pN : Nat) (pC : Nat) (pA1 : Option Addr) (pN1 : Nat) (pC1 : Nat) (pA2 : Option Addr) (pN2 : Nat) (pC2 : Nat) (pA3 : Option Addr) (pN3 : Nat) (pC3 : Nat) (part : Int) (x : Int) (x1 : Int) (x2 : Int) (x3 : ByteArray) (w : World) (R : Value → World → Prop) : Prop :=
 newBlk w (.cells #[.int .u16 p, .slice pA pN pC, .slice pA1 pN1 pC1, .slice pA2 pN2 pC2, .slice pA3 pN3 pC3] 45 (0, 0)) fun b w1 =>
 newBlk w1 (.cells #[.int .i64 x, .int .i64 x1, .int .i64 x2, .string x3] 30 (0, 0)) fun b1 w2 =>
 ∃ t7 : Int, w2.cell? ⟨b1, 0, none⟩ = some (.int .i64 t7) ∧ ∃ t71 : Int, w2.cell? ⟨b1, 1, none⟩ = some (.int .i64 t71) ∧ ∃ t72 : Int, w2.cell? ⟨b1, 2, none⟩ = some (.int .i64 t72) ∧ ∃ t73 : ByteArray, w2.cell? ⟨b1, 3, none⟩ = some (.string t73) ∧ 
 Calls Tryd.prog 13 #[.agg #[.int .i64 t7, .int .i64 t71, .int .i64 t72, .string t73]] w2 (fun e w3 => ∃ t8 : Bool, e = .returned (.bool t8) ∧
 br (!t8) (
 Calls Tryd.prog 12 #[] w3 (fun e w4 => ∃ t22 : Bool, e = .returned (.bool t22) ∧
 R (.bool t22) w4)) (
 ∃ t12A : Option Addr, ∃ t12N : Nat, ∃ t12C : Nat, w3.cell? ⟨b, 2, none⟩ = some (.slice t12A t12N t12C) ∧
 br (decide (((t12N : Nat) : Int) > 100)) (
 Calls Tryd.prog 12 #[] w3 (fun e w4 => ∃ t22 : Bool, e = .returned (.bool t22) ∧
 R (.bool t22) w4)) (
 ∃ t18A : Option Addr, ∃ t18N : Nat, ∃ t18C : Nat, w3.cell? ⟨b, 3, none⟩ = some (.slice t18A t18N t18C) ∧
 br (decide (((t18N : Nat) : Int) > 100)) (
 Calls Tryd.prog 12 #[] w3 (fun e w6 => ∃ t221 : Bool, e = .returned (.bool t221) ∧
 R (.bool t221) w6)) (
 ∃ S : World → Prop, S w3.drew ∧ drawC w3 fun w7 =>
 Calls Tryd.prog 12 #[] w7 (fun e w8 => ∃ t23 : Bool, e = .returned (.bool t23) ∧
 S w8 ∧ br t23 (
 ∃ t25 : Int, w8.cell? ⟨b, 0, none⟩ = some (.int .u16 t25) ∧ ∃ t25A : Option Addr, ∃ t25N : Nat, ∃ t25C : Nat, w8.cell? ⟨b, 1, none⟩ = some (.slice t25A t25N t25C) ∧ ∃ t25A1 : Option Addr, ∃ t25N1 : Nat, ∃ t25C1 : Nat, w8.cell? ⟨b, 2, none⟩ = some (.slice t25A1 t25N1 t25C1) ∧ ∃ t25A2 : Option Addr, ∃ t25N2 : Nat, ∃ t25C2 : Nat, w8.cell? ⟨b, 3, none⟩ = some (.slice t25A2 t25N2 t25C2) ∧ ∃ t25A3 : Option Addr, ∃ t25N3 : Nat, ∃ t25C3 : Nat, w8.cell? ⟨b, 4, none⟩ = some (.slice t25A3 t25N3 t25C3) ∧ 
 ∃ t27 : Int, w8.cell? ⟨b1, 0, none⟩ = some (.int .i64 t27) ∧ ∃ t271 : Int, w8.cell? ⟨b1, 1, none⟩ = some (.int .i64 t271) ∧ ∃ t272 : Int, w8.cell? ⟨b1, 2, none⟩ = some (.int .i64 t272) ∧ ∃ t273 : ByteArray, w8.cell? ⟨b1, 3, none⟩ = some (.string t273) ∧ 
 ∃ t29 : Int, (∀ w9 : World, S w9 → w9.cell? ⟨b, 0, none⟩ = some (.int .u16 t29)) ∧ ∃ t29A : Option Addr, ∃ t29N : Nat, ∃ t29C : Nat, (∀ w9 : World, S w9 → w9.cell? ⟨b, 1, none⟩ = some (.slice t29A t29N t29C)) ∧ ∃ t29A1 : Option Addr, ∃ t29N1 : Nat, ∃ t29C1 : Nat, (∀ w9 : World, S w9 → w9.cell? ⟨b, 2, none⟩ = some (.slice t29A1 t29N1 t29C1)) ∧ ∃ t29A2 : Option Addr, ∃ t29N2 : Nat, ∃ t29C2 : Nat, (∀ w9 : World, S w9 → w9.cell? ⟨b, 3, none⟩ = some (.slice t29A2 t29N2 t29C2)) ∧ ∃ t29A3 : Option Addr, ∃ t29N3 : Nat, ∃ t29C3 : Nat, (∀ w9 : World, S w9 → w9.cell? ⟨b, 4, none⟩ = some (.slice t29A3 t29N3 t29C3)) ∧ 
 ∃ t31 : Int, (∀ w9 : World, S w9 → w9.cell? ⟨b1, 0, none⟩ = some (.int .i64 t31)) ∧ ∃ t311 : Int, (∀ w9 : World, S w9 → w9.cell? ⟨b1, 1, none⟩ = some (.int .i64 t311)) ∧ ∃ t312 : Int, (∀ w9 : World, S w9 → w9.cell? ⟨b1, 2, none⟩ = some (.int .i64 t312)) ∧ ∃ t313 : ByteArray, (∀ w9 : World, S w9 → w9.cell? ⟨b1, 3, none⟩ = some (.string t313)) ∧ 
 Calls Tryd.prog 18 #[.agg #[.int .u16 t25, .slice t25A t25N t25C, .slice t25A1 t25N1 t25C1, .slice t25A2 t25N2 t25C2, .slice t25A3 t25N3 t25C3], .int .i64 part, .agg #[.int .i64 t27, .int .i64 t271, .int .i64 t272, .string t273]] w8 (fun e w9 => ∃ t28 : Int, e = .returned (.int .i64 t28) ∧
 S w9 ∧ Calls Tryd.prog 19 #[.agg #[.int .u16 t29, .slice t29A t29N t29C, .slice t29A1 t29N1 t29C1, .slice t29A2 t29N2 t29C2, .slice t29A3 t29N3 t29C3], .int .i64 part, .agg #[.int .i64 t31, .int .i64 t311, .int .i64 t312, .string t313]] w9 (fun e w10 => ∃ t32 : Int, e = .returned (.int .i64 t32) ∧
 R (.bool (t28 == t32)) w10))) (
 R (.bool false) w8))))))

theorem purlinlaw21_CallChecks.vc (p : Int) (pA : Option Addr) (pN : Nat) (pC : Nat) (pA1 : Option Addr) (pN1 : Nat) (pC1 : Nat) (pA2 : Option Addr) (pN2 : Nat) (pC2 : Nat) (pA3 : Option Addr) (pN3 : Nat) (pC3 : Nat) (part : Int) (x : Int) (x1 : Int) (x2 : Int) (x3 : ByteArray) (w : World) (R : Value → World → Prop) : fnVC Tryd.prog purlinlaw21_CallChecks.A Tryd.f7 [.agg #[.int .u16 p, .slice pA pN pC, .slice pA1 pN1 pC1, .slice pA2 pN2 pC2, .slice pA3 pN3 pC3], .int .i64 part, .agg #[.int .i64 x, .int .i64 x1, .int .i64 x2, .string x3]] w R = purlinlaw21_CallChecks.F p pA pN pC pA1 pN1 pC1 pA2 pN2 pC2 pA3 pN3 pC3 part x x1 x2 x3 w R := by kernel_rfl
theorem purlinlaw21_CallChecks.calls (p : Int) (pA : Option Addr) (pN : Nat) (pC : Nat) (pA1 : Option Addr) (pN1 : Nat) (pC1 : Nat) (pA2 : Option Addr) (pN2 : Nat) (pC2 : Nat) (pA3 : Option Addr) (pN3 : Nat) (pC3 : Nat) (part : Int) (x : Int) (x1 : Int) (x2 : Int) (x3 : ByteArray) (w : World) (R : Value → World → Prop) (h : purlinlaw21_CallChecks.F p pA pN pC pA1 pN1 pC1 pA2 pN2 pC2 pA3 pN3 pC3 part x x1 x2 x3 w R) : Calls Tryd.prog 7 #[.agg #[.int .u16 p, .slice pA pN pC, .slice pA1 pN1 pC1, .slice pA2 pN2 pC2, .slice pA3 pN3 pC3], .int .i64 part, .agg #[.int .i64 x, .int .i64 x1, .int .i64 x2, .string x3]] w (Ret R) :=
  calls_of_vc mixed Tryd.func7 (Eq.mpr (purlinlaw21_CallChecks.vc p pA pN pC pA1 pN1 pC1 pA2 pN2 pC2 pA3 pN3 pC3 part x x1 x2 x3 w R) h)

end Go.Proofs.YtmihgfhpmnomoaaDoor
