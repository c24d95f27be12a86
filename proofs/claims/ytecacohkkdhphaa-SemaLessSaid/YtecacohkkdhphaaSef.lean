/- Printed by vcgen.py: of each function of this text its weakest precondition as a formula, and that it is one. Conditions: none. -/
import Derived.Test.YtecacohkkdhphaaVcCode
import Derived.Test.YtecacohkkdhphaaVcMem
import Derived.Test.YtecacohkkdhphaaChecked
namespace Go.Proofs.Ytecacohkkdhphaa
open Go.Vc
set_option linter.unusedVariables false
set_option maxRecDepth 100000

/-! ### purlin/sema.New: function 35 -/
def sema_New.A : Ann where
  sched := fun i => match i with
    | _ => none
  loop := fun i => match i with
    | _ => none

def sema_New.F (init : Int) (most : Int) (w : World) (R : Value → World → Prop) : Prop :=
 br (decide (most < 1)) (
 R (.tuple #[.pointer none, .int .i64 150]) w) (
 br (decide (most > 255)) (
 R (.tuple #[.pointer none, .int .i64 150]) w) (
 br (decide (init < 0)) (
 R (.tuple #[.pointer none, .int .i64 150]) w) (
 br (decide (init > most)) (
 R (.tuple #[.pointer none, .int .i64 150]) w) (
 Calls Try.prog 53 #[] w (fun e w1 => ∃ t21P : Option Addr, e = .returned (.pointer t21P) ∧
 newBlk w1 (.cells #[.pointer t21P, .int .i64 init, .int .i64 most] 107 (0, 0)) fun b w2 =>
 R (.tuple #[.pointer (some ⟨b, 0, none⟩), .int .i64 0]) w2)))))

theorem sema_New.vc (init : Int) (most : Int) (w : World) (R : Value → World → Prop) : fnVC Try.prog sema_New.A Try.f35 [.int .i64 init, .int .i64 most] w R = sema_New.F init most w R := by kernel_rfl
theorem sema_New.calls (init : Int) (most : Int) (w : World) (R : Value → World → Prop) (h : sema_New.F init most w R) : Calls Try.prog 35 #[.int .i64 init, .int .i64 most] w (Ret R) :=
  calls_of_vc mixed Try.func35 (Eq.mpr (sema_New.vc init most w R) h)

/-! ### (*purlin/sema.Sema).Wait: function 37 -/
def sema_Sema_Wait.A : Ann where
  sched := fun i => match i with
    | _ => none
  loop := fun i => match i with
    | _ => none

def sema_Sema_Wait.F (sB : Nat) (sO : Nat) (id : Int) (prio : Int) (until1 : Int) (w : World) (R : Value → World → Prop) : Prop :=
 br (decide (id < 0)) (
 R (.tuple #[.bool false, .int .i64 140]) w) (
 br (decide (id > 65535)) (
 R (.tuple #[.bool false, .int .i64 140]) w) (
 br (decide (prio < 0)) (
 R (.tuple #[.bool false, .int .i64 143]) w) (
 br (decide (prio > 63)) (
 R (.tuple #[.bool false, .int .i64 143]) w) (
 ∃ t28P : Option Addr, w.cell? ⟨sB, sO, none⟩ = some (.pointer t28P) ∧
 Calls Try.prog 52 #[.pointer t28P] w (fun e w1 => ∃ t29A : Option Addr, ∃ t29N : Nat, ∃ t29C : Nat, e = .returned (.slice t29A t29N t29C) ∧
 Calls Try.prog 54 #[.slice t29A t29N t29C, .int .i64 id] w1 (fun e w2 => ∃ t31 : Bool, e = .returned (.bool t31) ∧
 br t31 (
 R (.tuple #[.bool false, .int .i64 141]) w2) (
 ∃ t36 : Int, w2.cell? ⟨sB, sO + 1, none⟩ = some (.int .i64 t36) ∧
 br (decide (t36 > 0)) (
 ∃ t41 : Int, w2.cell? ⟨sB, sO + 1, none⟩ = some (.int .i64 t41) ∧
 storeC w2 sB (sO + 1) [.int .i64 (IntKind.wrap .i64 (t41 - 1))] fun w3 =>
 R (.tuple #[.bool true, .int .i64 0]) w3) (
 br (until1 == 0) (
 R (.tuple #[.bool false, .int .i64 0]) w2) (
 ∃ t51P : Option Addr, w2.cell? ⟨sB, sO, none⟩ = some (.pointer t51P) ∧
 Calls Try.prog 72 #[.pointer t51P, .int .i64 id, .int .i64 prio, .int .i64 until1] w2 (fun e w4 => ∃ t55 : Int, e = .returned (.int .i64 t55) ∧
 R (.tuple #[.bool false, .int .i64 t55]) w4))))))))))

theorem sema_Sema_Wait.vc (sB : Nat) (sO : Nat) (id : Int) (prio : Int) (until1 : Int) (w : World) (R : Value → World → Prop) : fnVC Try.prog sema_Sema_Wait.A Try.f37 [.pointer (some ⟨sB, sO, none⟩), .int .i64 id, .int .i64 prio, .int .i64 until1] w R = sema_Sema_Wait.F sB sO id prio until1 w R := by kernel_rfl
theorem sema_Sema_Wait.calls (sB : Nat) (sO : Nat) (id : Int) (prio : Int) (until1 : Int) (w : World) (R : Value → World → Prop) (h : sema_Sema_Wait.F sB sO id prio until1 w R) : Calls Try.prog 37 #[.pointer (some ⟨sB, sO, none⟩), .int .i64 id, .int .i64 prio, .int .i64 until1] w (Ret R) :=
  calls_of_vc mixed Try.func37 (Eq.mpr (sema_Sema_Wait.vc sB sO id prio until1 w R) h)

/-! ### (*purlin/sema.Sema).Signal: function 38 -/
def sema_Sema_Signal.A : Ann where
  sched := fun i => match i with
    | 5 => some (none, .still 0 false 240 <| .still 1 false 241 <| .still 2 false 243 <| .still 3 false 247 <| .still 4 false 15 <| .still 5 false 31 <| .still 6 false 63 <| .still 7 false 127 <| .still 8 false 255 <| .done)
    | _ => none
  loop := fun i => match i with
    | _ => none

def sema_Sema_Signal.F (sB : Nat) (sO : Nat) (w : World) (R : Value → World → Prop) : Prop :=
 ∃ t11P : Option Addr, w.cell? ⟨sB, sO, none⟩ = some (.pointer t11P) ∧
 ∃ (f : FuncId) (args : Array Value) (w4 : World), (callV (.func (.func 73) #[.pointer t11P] #[]) #[]).run Try.prog w = .ok (.enter f args) w4 ∧
 Calls Try.prog f args w4 (fun e w1 => ∃ t15 : Int, ∃ t151 : Bool, e = .returned (.tuple #[.int .i64 t15, .bool t151]) ∧
 br t151 (
 R (.tuple #[.int .i64 t15, .bool true, .int .i64 0]) w1) (
 drawC w1 fun w2 =>
 ∃ t23 : Int, w2.cell? ⟨sB, sO + 1, none⟩ = some (.int .i64 t23) ∧
 ∃ t27 : Int, w2.cell? ⟨sB, sO + 2, none⟩ = some (.int .i64 t27) ∧
 br (t23 == t27) (
 R (.tuple #[.int .i64 0, .bool false, .int .i64 151]) w2) (
 ∃ t32 : Int, w2.cell? ⟨sB, sO + 1, none⟩ = some (.int .i64 t32) ∧
 storeC w2 sB (sO + 1) [.int .i64 (IntKind.wrap .i64 (t32 + 1))] fun w3 =>
 R (.tuple #[.int .i64 0, .bool false, .int .i64 0]) w3)))

theorem sema_Sema_Signal.vc (sB : Nat) (sO : Nat) (w : World) (R : Value → World → Prop) : fnVC Try.prog sema_Sema_Signal.A Try.f38 [.pointer (some ⟨sB, sO, none⟩)] w R = sema_Sema_Signal.F sB sO w R := by kernel_rfl
theorem sema_Sema_Signal.calls (sB : Nat) (sO : Nat) (w : World) (R : Value → World → Prop) (h : sema_Sema_Signal.F sB sO w R) : Calls Try.prog 38 #[.pointer (some ⟨sB, sO, none⟩)] w (Ret R) :=
  calls_of_vc mixed Try.func38 (Eq.mpr (sema_Sema_Signal.vc sB sO w R) h)

/-! ### (*purlin/sema.Sema).Count: function 51 -/
def sema_Sema_Count.A : Ann where
  sched := fun i => match i with
    | _ => none
  loop := fun i => match i with
    | _ => none

def sema_Sema_Count.F (sB : Nat) (sO : Nat) (w : World) (R : Value → World → Prop) : Prop :=
 ∃ t6 : Int, w.cell? ⟨sB, sO + 1, none⟩ = some (.int .i64 t6) ∧
 R (.int .i64 t6) w

theorem sema_Sema_Count.vc (sB : Nat) (sO : Nat) (w : World) (R : Value → World → Prop) : fnVC Try.prog sema_Sema_Count.A Try.f51 [.pointer (some ⟨sB, sO, none⟩)] w R = sema_Sema_Count.F sB sO w R := by kernel_rfl
theorem sema_Sema_Count.calls (sB : Nat) (sO : Nat) (w : World) (R : Value → World → Prop) (h : sema_Sema_Count.F sB sO w R) : Calls Try.prog 51 #[.pointer (some ⟨sB, sO, none⟩)] w (Ret R) :=
  calls_of_vc mixed Try.func51 (Eq.mpr (sema_Sema_Count.vc sB sO w R) h)

end Go.Proofs.Ytecacohkkdhphaa
