/- Printed by vcgen.py: of each function of this text its weakest precondition as a formula, and that it is one. Conditions: none. -/
import Derived.Test.YtecacohkkdhphaaVcCode
import Derived.Test.YtecacohkkdhphaaVcMem
import Derived.Test.YtecacohkkdhphaaChecked
namespace Go.Proofs.Ytecacohkkdhphaa
open Go.Vc
set_option linter.unusedVariables false
set_option maxRecDepth 100000

/-! ### (*purlin/proc.Table).Order: function 30 -/
def proc_Table_Order.A : Ann where
  sched := fun i => match i with
    | _ => none
  loop := fun i => match i with
    | 3 => some [(3, some (.one (.slice))), (4, none), (5, none), (11, some (.one (.int .i64))), (12, none), (13, none), (14, none), (15, none), (16, none), (17, none), (18, none), (19, none), (20, none), (21, none), (22, none)]
    | _ => none

def proc_Table_Order.L0 (R : Value → World → Prop) (b : Nat) (t9A : Option Addr) (t9N : Nat) (lA : Option Addr) (lN : Nat) (lC : Nat) (t11 : Int) (w2 : World) (Nx0 : Option Addr → Nat → Nat → Int → World → Prop) : Prop :=
 br (decide (t11 < ((t9N : Nat) : Int))) (
 0 ≤ (t11 : Int) ∧ t11 < ((t9N : Nat) : Int) ∧ okP t9A (
 ∃ t15 : Int, w2.cell? ⟨(pb t9A), po t9A + t11.toNat * 4, none⟩ = some (.int .i64 t15) ∧ ∃ t151 : Bool, w2.cell? ⟨(pb t9A), po t9A + t11.toNat * 4 + 1, none⟩ = some (.bool t151) ∧ ∃ t152 : Int, w2.cell? ⟨(pb t9A), po t9A + t11.toNat * 4 + 2, none⟩ = some (.int .i64 t152) ∧ ∃ t153 : Int, w2.cell? ⟨(pb t9A), po t9A + t11.toNat * 4 + 3, none⟩ = some (.int .i64 t153) ∧ 
 newBlk w2 (.cells #[.int .i64 0, .bool false, .int .i64 0, .int .i64 0] 121 (0, 0)) fun b1 w3 =>
 storeC w3 b1 0 [.int .i64 t15, .bool t151, .int .i64 t152, .int .i64 t153] fun w4 =>
 ∃ t16 : Int, w4.cell? ⟨b1, 0, none⟩ = some (.int .i64 t16) ∧ ∃ t161 : Bool, w4.cell? ⟨b1, 1, none⟩ = some (.bool t161) ∧ ∃ t162 : Int, w4.cell? ⟨b1, 2, none⟩ = some (.int .i64 t162) ∧ ∃ t163 : Int, w4.cell? ⟨b1, 3, none⟩ = some (.int .i64 t163) ∧ 
 Calls Try.prog 64 #[.agg #[.int .i64 t16, .bool t161, .int .i64 t162, .int .i64 t163]] w4 (fun e w5 => ∃ t17 : Bool, e = .returned (.bool t17) ∧
 br t17 (
 newBlk w5 (.cells #[.int .i64 t11] 3 (0, 0)) fun b2 w6 =>
 ∃ t21A : Option Addr, ∃ t21N : Nat, ∃ t21C : Nat, ∃ w7 : World, (Builtin.append_ #[29, 29] 29 #[.slice lA lN lC, .slice (some ⟨b2, 0, none⟩) 1 1]).run Try.prog w6 = .ok (.slice t21A t21N t21C) w7 ∧
 Nx0 t21A t21N t21C (IntKind.wrap .i64 (t11 + 1)) w7) (
 Nx0 lA lN lC (IntKind.wrap .i64 (t11 + 1)) w5)))) (
 Calls Try.prog 65 #[.slice lA lN lC, .func (.func 66) #[] #[.pointer (some ⟨b, 0, none⟩)]] w2 (fun e w9 => e = .returned (.tuple #[]) ∧
 R (.slice lA lN lC) w9))

def proc_Table_Order.F (tB : Nat) (tO : Nat) (w : World) (R : Value → World → Prop) : Prop :=
 newBlk w (.cells #[.pointer (some ⟨tB, tO, none⟩)] 37 (0, 0)) fun b w1 =>
 ∃ t6P : Option Addr, w1.cell? ⟨b, 0, none⟩ = some (.pointer t6P) ∧
 okP t6P (
 ∃ t9A : Option Addr, ∃ t9N : Nat, ∃ t9C : Nat, w1.cell? ⟨(pb t6P), po t6P + 1, none⟩ = some (.slice t9A t9N t9C) ∧
 ∃ I : Nat → Option Addr → Nat → Nat → Int → World → Prop, (∃ n, I n none 0 0 0 w1) ∧ ∀ (n9 : Nat) (dead : Nat → Value) (w2 : World) (lA : Option Addr) (lN : Nat) (lC : Nat) (t11 : Int), I n9 lA lN lC t11 w2 →
 proc_Table_Order.L0 R b t9A t9N lA lN lC t11 w2 (fun x0 x1 x2 x3 w9 => ∃ m, m < n9 ∧ I m x0 x1 x2 x3 w9))

theorem proc_Table_Order.vc (tB : Nat) (tO : Nat) (w : World) (R : Value → World → Prop) : fnVC Try.prog proc_Table_Order.A Try.f30 [.pointer (some ⟨tB, tO, none⟩)] w R = proc_Table_Order.F tB tO w R := by kernel_rfl
theorem proc_Table_Order.calls (tB : Nat) (tO : Nat) (w : World) (R : Value → World → Prop) (h : proc_Table_Order.F tB tO w R) : Calls Try.prog 30 #[.pointer (some ⟨tB, tO, none⟩)] w (Ret R) :=
  calls_of_vc mixed Try.func30 (Eq.mpr (proc_Table_Order.vc tB tO w R) h)

/-! ### (*purlin/proc.Table).Order$1: function 66 -/
def proc_Table_Order_1.A : Ann where
  sched := fun i => match i with
    | 1 => some ((some 131072), .still 4 true 65423 <| .still 11 true 116735 <| .still 0 true 65424 <| .still 1 true 65425 <| .still 2 true 65427 <| .still 3 true 65431 <| .still 5 true 65439 <| .still 6 true 65471 <| .still 7 true 116863 <| .still 8 true 116991 <| .still 9 true 117247 <| .still 10 true 117759 <| .still 12 true 118783 <| .still 13 true 122879 <| .alt 14 (.eff 15 <| .eff 16 <| .eff 17 <| .done) <| .eff 15 <| .eff 14 <| .eff 16 <| .eff 17 <| .done)
    | 2 => some ((some 3584), .still 0 false 492 <| .still 1 false 493 <| .still 2 false 483 <| .still 3 false 487 <| .still 5 true 415 <| .still 7 true 127 <| .still 6 true 447 <| .still 8 true 255 <| .eff 4 <| .eff 9 <| .eff 10 <| .eff 11 <| .still 12 false 4095 <| .done)
    | _ => none
  loop := fun i => match i with
    | _ => none

def proc_Table_Order_1.K0 (R : Value → World → Prop) (pB : Nat) (qB : Nat) (w6 : World) : Prop :=
 ∃ S : World → Prop, S w6.drew ∧ drawC w6 fun w7 =>
 ∃ t23 : Int, w7.cell? ⟨qB, 2, none⟩ = some (.int .i64 t23) ∧
 ∃ t25 : Int, w7.cell? ⟨pB, 2, none⟩ = some (.int .i64 t25) ∧
 ∃ t28 : Int, (∀ w9 : World, S w9 → w9.cell? ⟨pB, 3, none⟩ = some (.int .i64 t28)) ∧
 ∃ t30 : Int, (∀ w9 : World, S w9 → w9.cell? ⟨qB, 3, none⟩ = some (.int .i64 t30)) ∧
 Calls Try.prog 68 #[.int .i64 t23, .int .i64 t25] w7 (fun e w8 => ∃ t26 : Int, e = .returned (.int .i64 t26) ∧
 S w8 ∧ Calls Try.prog 68 #[.int .i64 t28, .int .i64 t30] w8 (fun e w9 => ∃ t31 : Int, e = .returned (.int .i64 t31) ∧
 newBlk w9 (.cells #[.int .i64 t26, .int .i64 t31] 3 (0, 0)) fun b3 w10 =>
 Calls Try.prog 67 #[.slice (some ⟨b3, 0, none⟩) 2 2] w10 (fun e w11 => ∃ t33 : Int, e = .returned (.int .i64 t33) ∧
 R (.int .i64 t33) w11)))

def proc_Table_Order_1.F (a : Int) (b : Int) (t2B : Nat) (t2O : Nat) (w : World) (R : Value → World → Prop) : Prop :=
 ∃ S : World → Prop, S w.drew ∧ drawC w fun w1 =>
 ∃ t8P : Option Addr, (∀ w9 : World, S w9 → w9.cell? ⟨t2B, t2O, none⟩ = some (.pointer t8P)) ∧
 okP t8P (
 ∃ t11A : Option Addr, ∃ t11N : Nat, ∃ t11C : Nat, (∀ w9 : World, S w9 → w9.cell? ⟨(pb t8P), po t8P + 1, none⟩ = some (.slice t11A t11N t11C)) ∧
 0 ≤ (a : Int) ∧ a < ((t11N : Nat) : Int) ∧ okP t11A (
 ∃ t14 : Int, (∀ w9 : World, S w9 → w9.cell? ⟨(pb t11A), po t11A + a.toNat * 4, none⟩ = some (.int .i64 t14)) ∧ ∃ t141 : Bool, (∀ w9 : World, S w9 → w9.cell? ⟨(pb t11A), po t11A + a.toNat * 4 + 1, none⟩ = some (.bool t141)) ∧ ∃ t142 : Int, (∀ w9 : World, S w9 → w9.cell? ⟨(pb t11A), po t11A + a.toNat * 4 + 2, none⟩ = some (.int .i64 t142)) ∧ ∃ t143 : Int, (∀ w9 : World, S w9 → w9.cell? ⟨(pb t11A), po t11A + a.toNat * 4 + 3, none⟩ = some (.int .i64 t143)) ∧ 
 ∃ t15P : Option Addr, (∀ w9 : World, S w9 → w9.cell? ⟨t2B, t2O, none⟩ = some (.pointer t15P)) ∧
 okP t15P (
 ∃ t18A : Option Addr, ∃ t18N : Nat, ∃ t18C : Nat, (∀ w9 : World, S w9 → w9.cell? ⟨(pb t15P), po t15P + 1, none⟩ = some (.slice t18A t18N t18C)) ∧
 0 ≤ (b : Int) ∧ b < ((t18N : Nat) : Int) ∧ okP t18A (
 ∃ t21 : Int, (∀ w9 : World, S w9 → w9.cell? ⟨(pb t18A), po t18A + b.toNat * 4, none⟩ = some (.int .i64 t21)) ∧ ∃ t211 : Bool, (∀ w9 : World, S w9 → w9.cell? ⟨(pb t18A), po t18A + b.toNat * 4 + 1, none⟩ = some (.bool t211)) ∧ ∃ t212 : Int, (∀ w9 : World, S w9 → w9.cell? ⟨(pb t18A), po t18A + b.toNat * 4 + 2, none⟩ = some (.int .i64 t212)) ∧ ∃ t213 : Int, (∀ w9 : World, S w9 → w9.cell? ⟨(pb t18A), po t18A + b.toNat * 4 + 3, none⟩ = some (.int .i64 t213)) ∧ 
 (newBlk w1 (.cells #[.int .i64 0, .bool false, .int .i64 0, .int .i64 0] 121 (0, 0)) fun b1 w2 =>
 S w2 ∧ newBlk w2 (.cells #[.int .i64 0, .bool false, .int .i64 0, .int .i64 0] 121 (0, 0)) fun b2 w3 =>
 S w3 ∧ storeC w3 b1 0 [.int .i64 t14, .bool t141, .int .i64 t142, .int .i64 t143] fun w4 =>
 S w4 ∧ storeC w4 b2 0 [.int .i64 t21, .bool t211, .int .i64 t212, .int .i64 t213] fun w5 =>
 proc_Table_Order_1.K0 R b1 b2 w5) ∧
 (newBlk w1 (.cells #[.int .i64 0, .bool false, .int .i64 0, .int .i64 0] 121 (0, 0)) fun b4 w12 =>
 S w12 ∧ newBlk w12 (.cells #[.int .i64 0, .bool false, .int .i64 0, .int .i64 0] 121 (0, 0)) fun b5 w13 =>
 S w13 ∧ storeC w13 b5 0 [.int .i64 t14, .bool t141, .int .i64 t142, .int .i64 t143] fun w14 =>
 S w14 ∧ storeC w14 b4 0 [.int .i64 t21, .bool t211, .int .i64 t212, .int .i64 t213] fun w15 =>
 proc_Table_Order_1.K0 R b5 b4 w15)))))

theorem proc_Table_Order_1.vc (a : Int) (b : Int) (t2B : Nat) (t2O : Nat) (w : World) (R : Value → World → Prop) : fnVC Try.prog proc_Table_Order_1.A Try.f66 [.int .i64 a, .int .i64 b, .pointer (some ⟨t2B, t2O, none⟩)] w R = proc_Table_Order_1.F a b t2B t2O w R := by kernel_rfl
theorem proc_Table_Order_1.calls (a : Int) (b : Int) (t2B : Nat) (t2O : Nat) (w : World) (R : Value → World → Prop) (h : proc_Table_Order_1.F a b t2B t2O w R) : Calls Try.prog 66 #[.int .i64 a, .int .i64 b, .pointer (some ⟨t2B, t2O, none⟩)] w (Ret R) :=
  calls_of_vc mixed Try.func66 (Eq.mpr (proc_Table_Order_1.vc a b t2B t2O w R) h)

/-! ### (*purlin/proc.Table).Running: function 26 -/
def proc_Table_Running.A : Ann where
  sched := fun i => match i with
    | _ => none
  loop := fun i => match i with
    | _ => none

def proc_Table_Running.F (tB : Nat) (tO : Nat) (w : World) (R : Value → World → Prop) : Prop :=
 Calls Try.prog 30 #[.pointer (some ⟨tB, tO, none⟩)] w (fun e w1 => ∃ t6A : Option Addr, ∃ t6N : Nat, ∃ t6C : Nat, e = .returned (.slice t6A t6N t6C) ∧
 br (((t6N : Nat) : Int) == 0) (
 R (.tuple #[.int .i64 0, .bool false]) w1) (
 0 ≤ (0 : Int) ∧ 0 < ((t6N : Nat) : Int) ∧ okP t6A (
 ∃ t12 : Int, w1.cell? ⟨(pb t6A), po t6A, none⟩ = some (.int .i64 t12) ∧
 R (.tuple #[.int .i64 t12, .bool true]) w1)))

theorem proc_Table_Running.vc (tB : Nat) (tO : Nat) (w : World) (R : Value → World → Prop) : fnVC Try.prog proc_Table_Running.A Try.f26 [.pointer (some ⟨tB, tO, none⟩)] w R = proc_Table_Running.F tB tO w R := by kernel_rfl
theorem proc_Table_Running.calls (tB : Nat) (tO : Nat) (w : World) (R : Value → World → Prop) (h : proc_Table_Running.F tB tO w R) : Calls Try.prog 26 #[.pointer (some ⟨tB, tO, none⟩)] w (Ret R) :=
  calls_of_vc mixed Try.func26 (Eq.mpr (proc_Table_Running.vc tB tO w R) h)

end Go.Proofs.Ytecacohkkdhphaa
