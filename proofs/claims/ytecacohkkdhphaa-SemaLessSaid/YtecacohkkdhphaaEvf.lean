/- Printed by vcgen.py: of each function of this text its weakest precondition as a formula, and that it is one. Conditions: none. -/
import Derived.Test.YtecacohkkdhphaaVcCode
import Derived.Test.YtecacohkkdhphaaVcMem
import Derived.Test.YtecacohkkdhphaaChecked
namespace Go.Proofs.Ytecacohkkdhphaa
open Go.Vc
set_option linter.unusedVariables false
set_option maxRecDepth 100000

/-! ### purlin/event.New: function 16 -/
def event_New.A : Ann where
  sched := fun i => match i with
    | _ => none
  loop := fun i => match i with
    | _ => none

def event_New.F (up : Bool) (w : World) (R : Value → World → Prop) : Prop :=
 Calls Try.prog 53 #[] w (fun e w1 => ∃ t3P : Option Addr, e = .returned (.pointer t3P) ∧
 newBlk w1 (.cells #[.iface 105 (.pointer t3P), .bool up] 34 (0, 0)) fun b w2 =>
 R (.pointer (some ⟨b, 0, none⟩)) w2)

theorem event_New.vc (up : Bool) (w : World) (R : Value → World → Prop) : fnVC Try.prog event_New.A Try.f16 [.bool up] w R = event_New.F up w R := by kernel_rfl
theorem event_New.calls (up : Bool) (w : World) (R : Value → World → Prop) (h : event_New.F up w R) : Calls Try.prog 16 #[.bool up] w (Ret R) :=
  calls_of_vc mixed Try.func16 (Eq.mpr (event_New.vc up w R) h)

/-! ### (*purlin/event.Event).Wait: function 18 -/
def event_Event_Wait.A : Ann where
  sched := fun i => match i with
    | _ => none
  loop := fun i => match i with
    | _ => none

def event_Event_Wait.F (xB : Nat) (xO : Nat) (id : Int) (prio : Int) (until1 : Int) (w : World) (R : Value → World → Prop) : Prop :=
 br (decide (id < 0)) (
 R (.tuple #[.bool false, .int .i64 140]) w) (
 br (decide (id > 65535)) (
 R (.tuple #[.bool false, .int .i64 140]) w) (
 br (decide (prio < 0)) (
 R (.tuple #[.bool false, .int .i64 143]) w) (
 br (decide (prio > 63)) (
 R (.tuple #[.bool false, .int .i64 143]) w) (
 ∃ t28V : Value, w.cell? ⟨xB, xO, none⟩ = some (t28V) ∧
 ∃ (f1 : FuncId) (args1 : Array Value) (w6 : World), (callMethod (t28V) "List" #[]).run Try.prog w = .ok (.enter f1 args1) w6 ∧
 Calls Try.prog f1 args1 w6 (fun e w1 => ∃ t29A : Option Addr, ∃ t29N : Nat, ∃ t29C : Nat, e = .returned (.slice t29A t29N t29C) ∧
 Calls Try.prog 54 #[.slice t29A t29N t29C, .int .i64 id] w1 (fun e w2 => ∃ t31 : Bool, e = .returned (.bool t31) ∧
 br t31 (
 R (.tuple #[.bool false, .int .i64 141]) w2) (
 ∃ t36 : Bool, w2.cell? ⟨xB, xO + 1, none⟩ = some (.bool t36) ∧
 br t36 (
 ∃ t44 : Bool, w2.cell? ⟨xB, xO + 1, none⟩ = some (.bool t44) ∧
 R (.tuple #[.bool t44, .int .i64 0]) w2) (
 br (until1 == 0) (
 ∃ t441 : Bool, w2.cell? ⟨xB, xO + 1, none⟩ = some (.bool t441) ∧
 R (.tuple #[.bool t441, .int .i64 0]) w2) (
 ∃ t48V : Value, w2.cell? ⟨xB, xO, none⟩ = some (t48V) ∧
 ∃ (f : FuncId) (args : Array Value) (w5 : World), (callMethod (t48V) "Put" #[.int .i64 id, .int .i64 prio, .int .i64 until1]).run Try.prog w2 = .ok (.enter f args) w5 ∧
 Calls Try.prog f args w5 (fun e w4 => ∃ t52 : Int, e = .returned (.int .i64 t52) ∧
 R (.tuple #[.bool false, .int .i64 t52]) w4))))))))))

theorem event_Event_Wait.vc (xB : Nat) (xO : Nat) (id : Int) (prio : Int) (until1 : Int) (w : World) (R : Value → World → Prop) : fnVC Try.prog event_Event_Wait.A Try.f18 [.pointer (some ⟨xB, xO, none⟩), .int .i64 id, .int .i64 prio, .int .i64 until1] w R = event_Event_Wait.F xB xO id prio until1 w R := by kernel_rfl
theorem event_Event_Wait.calls (xB : Nat) (xO : Nat) (id : Int) (prio : Int) (until1 : Int) (w : World) (R : Value → World → Prop) (h : event_Event_Wait.F xB xO id prio until1 w R) : Calls Try.prog 18 #[.pointer (some ⟨xB, xO, none⟩), .int .i64 id, .int .i64 prio, .int .i64 until1] w (Ret R) :=
  calls_of_vc mixed Try.func18 (Eq.mpr (event_Event_Wait.vc xB xO id prio until1 w R) h)

/-! ### (*purlin/event.Event).Set: function 19 -/
def event_Event_Set.A : Ann where
  sched := fun i => match i with
    | _ => none
  loop := fun i => match i with
    | 3 => some [(5, none), (13, some (.one (.int .i64))), (14, none), (15, none), (16, none), (17, none), (18, none), (19, none), (20, none), (21, none), (22, none), (23, none)]
    | _ => none

def event_Event_Set.L0 (xB : Nat) (xO : Nat) (R : Value → World → Prop) (t10A : Option Addr) (t10N : Nat) (t10C : Nat) (t13 : Int) (w2 : World) (Nx0 : Int → World → Prop) : Prop :=
 br (decide (t13 < ((t10N : Nat) : Int))) (
 0 ≤ (t13 : Int) ∧ t13 < ((t10N : Nat) : Int) ∧ okP t10A (
 ∃ t16 : Int, w2.cell? ⟨(pb t10A), po t10A + t13.toNat * 1, none⟩ = some (.int .i64 t16) ∧
 ∃ t20V : Value, w2.cell? ⟨xB, xO, none⟩ = some (t20V) ∧
 ∃ (f : FuncId) (args : Array Value) (w4 : World), (callMethod (t20V) "Drop" #[.int .i64 t16]).run Try.prog w2 = .ok (.enter f args) w4 ∧
 Calls Try.prog f args w4 (fun e w3 => ∃ t22 : Int, e = .returned (.int .i64 t22) ∧
 Nx0 (IntKind.wrap .i64 (t13 + 1)) w3))) (
 storeC w2 xB (xO + 1) [.bool true] fun w5 =>
 R (.slice t10A t10N t10C) w5)

def event_Event_Set.F (xB : Nat) (xO : Nat) (w : World) (R : Value → World → Prop) : Prop :=
 ∃ t9V : Value, w.cell? ⟨xB, xO, none⟩ = some (t9V) ∧
 ∃ (f1 : FuncId) (args1 : Array Value) (w6 : World), (callMethod (t9V) "List" #[]).run Try.prog w = .ok (.enter f1 args1) w6 ∧
 Calls Try.prog f1 args1 w6 (fun e w1 => ∃ t10A : Option Addr, ∃ t10N : Nat, ∃ t10C : Nat, e = .returned (.slice t10A t10N t10C) ∧
 ∃ I : Nat → Int → World → Prop, (∃ n, I n 0 w1) ∧ ∀ (n9 : Nat) (dead : Nat → Value) (w2 : World) (t13 : Int), I n9 t13 w2 →
 event_Event_Set.L0 xB xO R t10A t10N t10C t13 w2 (fun x0 w9 => ∃ m, m < n9 ∧ I m x0 w9))

theorem event_Event_Set.vc (xB : Nat) (xO : Nat) (w : World) (R : Value → World → Prop) : fnVC Try.prog event_Event_Set.A Try.f19 [.pointer (some ⟨xB, xO, none⟩)] w R = event_Event_Set.F xB xO w R := by kernel_rfl
theorem event_Event_Set.calls (xB : Nat) (xO : Nat) (w : World) (R : Value → World → Prop) (h : event_Event_Set.F xB xO w R) : Calls Try.prog 19 #[.pointer (some ⟨xB, xO, none⟩)] w (Ret R) :=
  calls_of_vc mixed Try.func19 (Eq.mpr (event_Event_Set.vc xB xO w R) h)

/-! ### (*purlin/event.Event).Reset: function 41 -/
def event_Event_Reset.A : Ann where
  sched := fun i => match i with
    | _ => none
  loop := fun i => match i with
    | _ => none

def event_Event_Reset.F (xB : Nat) (xO : Nat) (w : World) (R : Value → World → Prop) : Prop :=
 storeC w xB (xO + 1) [.bool false] fun w1 =>
 R (.tuple #[]) w1

theorem event_Event_Reset.vc (xB : Nat) (xO : Nat) (w : World) (R : Value → World → Prop) : fnVC Try.prog event_Event_Reset.A Try.f41 [.pointer (some ⟨xB, xO, none⟩)] w R = event_Event_Reset.F xB xO w R := by kernel_rfl
theorem event_Event_Reset.calls (xB : Nat) (xO : Nat) (w : World) (R : Value → World → Prop) (h : event_Event_Reset.F xB xO w R) : Calls Try.prog 41 #[.pointer (some ⟨xB, xO, none⟩)] w (Ret R) :=
  calls_of_vc mixed Try.func41 (Eq.mpr (event_Event_Reset.vc xB xO w R) h)

/-! ### (*purlin/event.Event).Up: function 44 -/
def event_Event_Up.A : Ann where
  sched := fun i => match i with
    | _ => none
  loop := fun i => match i with
    | _ => none

def event_Event_Up.F (xB : Nat) (xO : Nat) (w : World) (R : Value → World → Prop) : Prop :=
 ∃ t6 : Bool, w.cell? ⟨xB, xO + 1, none⟩ = some (.bool t6) ∧
 R (.bool t6) w

theorem event_Event_Up.vc (xB : Nat) (xO : Nat) (w : World) (R : Value → World → Prop) : fnVC Try.prog event_Event_Up.A Try.f44 [.pointer (some ⟨xB, xO, none⟩)] w R = event_Event_Up.F xB xO w R := by kernel_rfl
theorem event_Event_Up.calls (xB : Nat) (xO : Nat) (w : World) (R : Value → World → Prop) (h : event_Event_Up.F xB xO w R) : Calls Try.prog 44 #[.pointer (some ⟨xB, xO, none⟩)] w (Ret R) :=
  calls_of_vc mixed Try.func44 (Eq.mpr (event_Event_Up.vc xB xO w R) h)

/-! ### slices.Contains[[]int,int]: function 54 -/
def slices_Contains_int_int.A : Ann where
  sched := fun i => match i with
    | _ => none
  loop := fun i => match i with
    | _ => none

def slices_Contains_int_int.F (sA : Option Addr) (sN : Nat) (sC : Nat) (v : Int) (w : World) (R : Value → World → Prop) : Prop :=
 Calls Try.prog 84 #[.slice sA sN sC, .int .i64 v] w (fun e w1 => ∃ t7 : Int, e = .returned (.int .i64 t7) ∧
 R (.bool (decide (t7 ≥ 0))) w1)

theorem slices_Contains_int_int.vc (sA : Option Addr) (sN : Nat) (sC : Nat) (v : Int) (w : World) (R : Value → World → Prop) : fnVC Try.prog slices_Contains_int_int.A Try.f54 [.slice sA sN sC, .int .i64 v] w R = slices_Contains_int_int.F sA sN sC v w R := by kernel_rfl
theorem slices_Contains_int_int.calls (sA : Option Addr) (sN : Nat) (sC : Nat) (v : Int) (w : World) (R : Value → World → Prop) (h : slices_Contains_int_int.F sA sN sC v w R) : Calls Try.prog 54 #[.slice sA sN sC, .int .i64 v] w (Ret R) :=
  calls_of_vc mixed Try.func54 (Eq.mpr (slices_Contains_int_int.vc sA sN sC v w R) h)

/-! ### slices.Index[[]int,int]: function 84 -/
def slices_Index_int_int.A : Ann where
  sched := fun i => match i with
    | _ => none
  loop := fun i => match i with
    | 2 => some [(4, none), (5, none), (8, some (.one (.int .i64))), (9, none), (10, none), (11, none), (12, none), (13, none), (14, none), (15, none), (16, none), (17, none), (18, none)]
    | _ => none

def slices_Index_int_int.L0 (sA : Option Addr) (sN : Nat) (v : Int) (R : Value → World → Prop) (t8 : Int) (w1 : World) (Nx0 : Int → World → Prop) : Prop :=
 br (decide (t8 < ((sN : Nat) : Int))) (
 0 ≤ (t8 : Int) ∧ t8 < ((sN : Nat) : Int) ∧ okP sA (
 ∃ t15 : Int, w1.cell? ⟨(pb sA), po sA + t8.toNat * 1, none⟩ = some (.int .i64 t15) ∧
 br (v == t15) (
 R (.int .i64 t8) w1) (
 Nx0 (IntKind.wrap .i64 (t8 + 1)) w1))) (
 R (.int .i64 (-1)) w1)

def slices_Index_int_int.F (sA : Option Addr) (sN : Nat) (sC : Nat) (v : Int) (w : World) (R : Value → World → Prop) : Prop :=
 ∃ I : Nat → Int → World → Prop, (∃ n, I n 0 w) ∧ ∀ (n9 : Nat) (dead : Nat → Value) (w1 : World) (t8 : Int), I n9 t8 w1 →
 slices_Index_int_int.L0 sA sN v R t8 w1 (fun x0 w9 => ∃ m, m < n9 ∧ I m x0 w9)

theorem slices_Index_int_int.vc (sA : Option Addr) (sN : Nat) (sC : Nat) (v : Int) (w : World) (R : Value → World → Prop) : fnVC Try.prog slices_Index_int_int.A Try.f84 [.slice sA sN sC, .int .i64 v] w R = slices_Index_int_int.F sA sN sC v w R := by kernel_rfl
theorem slices_Index_int_int.calls (sA : Option Addr) (sN : Nat) (sC : Nat) (v : Int) (w : World) (R : Value → World → Prop) (h : slices_Index_int_int.F sA sN sC v w R) : Calls Try.prog 84 #[.slice sA sN sC, .int .i64 v] w (Ret R) :=
  calls_of_vc mixed Try.func84 (Eq.mpr (slices_Index_int_int.vc sA sN sC v w R) h)

end Go.Proofs.Ytecacohkkdhphaa
