/- Printed by vcgen.py: of each function of this text its weakest precondition as a formula, and that it is one. Conditions: none. -/
import Derived.Test.YtecacohkkdhphaaVcCode
import Derived.Test.YtecacohkkdhphaaVcMem
import Derived.Test.YtecacohkkdhphaaChecked
namespace Go.Proofs.Ytecacohkkdhphaa
open Go.Vc
set_option linter.unusedVariables false
set_option maxRecDepth 100000

/-! ### purlin/purlinref16.Wait: function 39 -/
def purlinref16_Wait.A : Ann where
  sched := fun i => match i with
    | _ => none
  loop := fun i => match i with
    | _ => none

def purlinref16_Wait.F (xA : Option Addr) (xN : Nat) (xC : Nat) (x : Int) (x1 : Bool) (id : Int) (prio : Int) (until1 : Int) (w : World) (R : Value → World → Prop) : Prop :=
 newBlk w (.cells #[.slice xA xN xC, .int .i64 x, .bool x1] 79 (0, 0)) fun b w1 =>
 newBlk w1 (.cells #[.slice none 0 0, .int .i64 0, .bool false] 79 (0, 0)) fun b1 w2 =>
 ∃ t17A : Option Addr, ∃ t17N : Nat, ∃ t17C : Nat, w2.cell? ⟨b, 0, none⟩ = some (.slice t17A t17N t17C) ∧ ∃ t17 : Int, w2.cell? ⟨b, 1, none⟩ = some (.int .i64 t17) ∧ 
 Calls Try.prog 74 #[.agg #[.slice t17A t17N t17C, .int .i64 t17], .int .i64 id, .int .i64 prio, .int .i64 (-1)] w2 (fun e w3 => ∃ t20A : Option Addr, ∃ t20N : Nat, ∃ t20C : Nat, ∃ t20 : Int, ∃ t201 : Int, e = .returned (.tuple #[.agg #[.slice t20A t20N t20C, .int .i64 t20], .int .i64 t201]) ∧
 newBlk w3 (.cells #[.slice none 0 0, .int .i64 0] 77 (0, 0)) fun b2 w4 =>
 storeC w4 b2 0 [.slice t20A t20N t20C, .int .i64 t20] fun w5 =>
 br (t201 != 0) (
 ∃ t25A : Option Addr, ∃ t25N : Nat, ∃ t25C : Nat, w5.cell? ⟨b, 0, none⟩ = some (.slice t25A t25N t25C) ∧ ∃ t25 : Int, w5.cell? ⟨b, 1, none⟩ = some (.int .i64 t25) ∧ ∃ t251 : Bool, w5.cell? ⟨b, 2, none⟩ = some (.bool t251) ∧ 
 storeC w5 b1 0 [.slice t25A t25N t25C, .int .i64 t25, .bool t251] fun w6 =>
 ∃ rA : Option Addr, ∃ rN : Nat, ∃ rC : Nat, w6.cell? ⟨b1, 0, none⟩ = some (.slice rA rN rC) ∧ ∃ r : Int, w6.cell? ⟨b1, 1, none⟩ = some (.int .i64 r) ∧ ∃ r1 : Bool, w6.cell? ⟨b1, 2, none⟩ = some (.bool r1) ∧ 
 R (.tuple #[.agg #[.slice rA rN rC, .int .i64 r, .bool r1], .bool false, .int .i64 t201]) w6) (
 ∃ t28 : Bool, w5.cell? ⟨b, 2, none⟩ = some (.bool t28) ∧
 br t28 (
 ∃ t29A : Option Addr, ∃ t29N : Nat, ∃ t29C : Nat, w5.cell? ⟨b, 0, none⟩ = some (.slice t29A t29N t29C) ∧ ∃ t29 : Int, w5.cell? ⟨b, 1, none⟩ = some (.int .i64 t29) ∧ ∃ t291 : Bool, w5.cell? ⟨b, 2, none⟩ = some (.bool t291) ∧ 
 storeC w5 b1 0 [.slice t29A t29N t29C, .int .i64 t29, .bool t291] fun w7 =>
 ∃ rA1 : Option Addr, ∃ rN1 : Nat, ∃ rC1 : Nat, w7.cell? ⟨b1, 0, none⟩ = some (.slice rA1 rN1 rC1) ∧ ∃ r2 : Int, w7.cell? ⟨b1, 1, none⟩ = some (.int .i64 r2) ∧ ∃ r3 : Bool, w7.cell? ⟨b1, 2, none⟩ = some (.bool r3) ∧ 
 R (.tuple #[.agg #[.slice rA1 rN1 rC1, .int .i64 r2, .bool r3], .bool true, .int .i64 0]) w7) (
 br (until1 == 0) (
 ∃ t32A : Option Addr, ∃ t32N : Nat, ∃ t32C : Nat, w5.cell? ⟨b, 0, none⟩ = some (.slice t32A t32N t32C) ∧ ∃ t32 : Int, w5.cell? ⟨b, 1, none⟩ = some (.int .i64 t32) ∧ ∃ t321 : Bool, w5.cell? ⟨b, 2, none⟩ = some (.bool t321) ∧ 
 storeC w5 b1 0 [.slice t32A t32N t32C, .int .i64 t32, .bool t321] fun w8 =>
 ∃ rA2 : Option Addr, ∃ rN2 : Nat, ∃ rC2 : Nat, w8.cell? ⟨b1, 0, none⟩ = some (.slice rA2 rN2 rC2) ∧ ∃ r4 : Int, w8.cell? ⟨b1, 1, none⟩ = some (.int .i64 r4) ∧ ∃ r5 : Bool, w8.cell? ⟨b1, 2, none⟩ = some (.bool r5) ∧ 
 R (.tuple #[.agg #[.slice rA2 rN2 rC2, .int .i64 r4, .bool r5], .bool false, .int .i64 0]) w8) (
 ∃ t35A : Option Addr, ∃ t35N : Nat, ∃ t35C : Nat, w5.cell? ⟨b, 0, none⟩ = some (.slice t35A t35N t35C) ∧ ∃ t35 : Int, w5.cell? ⟨b, 1, none⟩ = some (.int .i64 t35) ∧ 
 Calls Try.prog 74 #[.agg #[.slice t35A t35N t35C, .int .i64 t35], .int .i64 id, .int .i64 prio, .int .i64 until1] w5 (fun e w9 => ∃ t39A : Option Addr, ∃ t39N : Nat, ∃ t39C : Nat, ∃ t39 : Int, ∃ t391 : Int, e = .returned (.tuple #[.agg #[.slice t39A t39N t39C, .int .i64 t39], .int .i64 t391]) ∧
 newBlk w9 (.cells #[.slice none 0 0, .int .i64 0] 77 (0, 0)) fun b3 w10 =>
 storeC w10 b3 0 [.slice t39A t39N t39C, .int .i64 t39] fun w11 =>
 ∃ t42A : Option Addr, ∃ t42N : Nat, ∃ t42C : Nat, w11.cell? ⟨b3, 0, none⟩ = some (.slice t42A t42N t42C) ∧ ∃ t42 : Int, w11.cell? ⟨b3, 1, none⟩ = some (.int .i64 t42) ∧ 
 storeC w11 b 0 [.slice t42A t42N t42C, .int .i64 t42] fun w12 =>
 ∃ t44A : Option Addr, ∃ t44N : Nat, ∃ t44C : Nat, w12.cell? ⟨b, 0, none⟩ = some (.slice t44A t44N t44C) ∧ ∃ t44 : Int, w12.cell? ⟨b, 1, none⟩ = some (.int .i64 t44) ∧ ∃ t441 : Bool, w12.cell? ⟨b, 2, none⟩ = some (.bool t441) ∧ 
 storeC w12 b1 0 [.slice t44A t44N t44C, .int .i64 t44, .bool t441] fun w13 =>
 ∃ rA3 : Option Addr, ∃ rN3 : Nat, ∃ rC3 : Nat, w13.cell? ⟨b1, 0, none⟩ = some (.slice rA3 rN3 rC3) ∧ ∃ r6 : Int, w13.cell? ⟨b1, 1, none⟩ = some (.int .i64 r6) ∧ ∃ r7 : Bool, w13.cell? ⟨b1, 2, none⟩ = some (.bool r7) ∧ 
 R (.tuple #[.agg #[.slice rA3 rN3 rC3, .int .i64 r6, .bool r7], .bool false, .int .i64 t391]) w13)))))

theorem purlinref16_Wait.vc (xA : Option Addr) (xN : Nat) (xC : Nat) (x : Int) (x1 : Bool) (id : Int) (prio : Int) (until1 : Int) (w : World) (R : Value → World → Prop) : fnVC Try.prog purlinref16_Wait.A Try.f39 [.agg #[.slice xA xN xC, .int .i64 x, .bool x1], .int .i64 id, .int .i64 prio, .int .i64 until1] w R = purlinref16_Wait.F xA xN xC x x1 id prio until1 w R := by kernel_rfl
theorem purlinref16_Wait.calls (xA : Option Addr) (xN : Nat) (xC : Nat) (x : Int) (x1 : Bool) (id : Int) (prio : Int) (until1 : Int) (w : World) (R : Value → World → Prop) (h : purlinref16_Wait.F xA xN xC x x1 id prio until1 w R) : Calls Try.prog 39 #[.agg #[.slice xA xN xC, .int .i64 x, .bool x1], .int .i64 id, .int .i64 prio, .int .i64 until1] w (Ret R) :=
  calls_of_vc mixed Try.func39 (Eq.mpr (purlinref16_Wait.vc xA xN xC x x1 id prio until1 w R) h)

/-! ### purlin/purlinref16.Set: function 40 -/
def purlinref16_Set.A : Ann where
  sched := fun i => match i with
    | _ => none
  loop := fun i => match i with
    | _ => none

def purlinref16_Set.F (xA : Option Addr) (xN : Nat) (xC : Nat) (x : Int) (x1 : Bool) (w : World) (R : Value → World → Prop) : Prop :=
 newBlk w (.cells #[.slice xA xN xC, .int .i64 x, .bool x1] 79 (0, 0)) fun b w1 =>
 newBlk w1 (.cells #[.slice none 0 0, .int .i64 0, .bool false] 79 (0, 0)) fun b1 w2 =>
 ∃ t6A : Option Addr, ∃ t6N : Nat, ∃ t6C : Nat, w2.cell? ⟨b, 0, none⟩ = some (.slice t6A t6N t6C) ∧ ∃ t6 : Int, w2.cell? ⟨b, 1, none⟩ = some (.int .i64 t6) ∧ 
 Calls Try.prog 45 #[.agg #[.slice t6A t6N t6C, .int .i64 t6]] w2 (fun e w3 => ∃ t7A : Option Addr, ∃ t7N : Nat, ∃ t7C : Nat, e = .returned (.slice t7A t7N t7C) ∧
 ∃ t10 : Int, w3.cell? ⟨b, 1, none⟩ = some (.int .i64 t10) ∧
 storeC w3 b1 0 [.slice none 0 0, .int .i64 t10, .bool true] fun w4 =>
 ∃ rA : Option Addr, ∃ rN : Nat, ∃ rC : Nat, w4.cell? ⟨b1, 0, none⟩ = some (.slice rA rN rC) ∧ ∃ r : Int, w4.cell? ⟨b1, 1, none⟩ = some (.int .i64 r) ∧ ∃ r1 : Bool, w4.cell? ⟨b1, 2, none⟩ = some (.bool r1) ∧ 
 R (.tuple #[.agg #[.slice rA rN rC, .int .i64 r, .bool r1], .slice t7A t7N t7C]) w4)

theorem purlinref16_Set.vc (xA : Option Addr) (xN : Nat) (xC : Nat) (x : Int) (x1 : Bool) (w : World) (R : Value → World → Prop) : fnVC Try.prog purlinref16_Set.A Try.f40 [.agg #[.slice xA xN xC, .int .i64 x, .bool x1]] w R = purlinref16_Set.F xA xN xC x x1 w R := by kernel_rfl
theorem purlinref16_Set.calls (xA : Option Addr) (xN : Nat) (xC : Nat) (x : Int) (x1 : Bool) (w : World) (R : Value → World → Prop) (h : purlinref16_Set.F xA xN xC x x1 w R) : Calls Try.prog 40 #[.agg #[.slice xA xN xC, .int .i64 x, .bool x1]] w (Ret R) :=
  calls_of_vc mixed Try.func40 (Eq.mpr (purlinref16_Set.vc xA xN xC x x1 w R) h)

end Go.Proofs.Ytecacohkkdhphaa
