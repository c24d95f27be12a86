/- Printed by vcgen.py: of each function of this text its weakest precondition as a formula, and that it is one. Conditions: none. -/
import Derived.Test.YtecacohkkdhphaaVcCode
import Derived.Test.YtecacohkkdhphaaVcMem
import Derived.Test.YtecacohkkdhphaaChecked
namespace Go.Proofs.Ytecacohkkdhphaa
open Go.Vc
set_option linter.unusedVariables false
set_option maxRecDepth 100000

/-! ### purlin/proc.New: function 20 -/
def proc_New.A : Ann where
  sched := fun i => match i with
    | 3 => some ((some 128), .still 1 true 57 <| .still 3 true 7 <| .still 4 true 15 <| .alt 0 (.alt 2 (.eff 5 <| .still 6 false 63 <| .eff 7 <| .still 8 false 255 <| .done) <| .eff 5 <| .eff 2 <| .still 6 false 63 <| .eff 7 <| .still 8 false 255 <| .done) <| .eff 5 <| .eff 0 <| .eff 2 <| .still 6 false 63 <| .eff 7 <| .still 8 false 255 <| .done)
    | _ => none
  loop := fun i => match i with
    | 5 => some [(2, none), (3, none), (6, none), (25, some (.one (.int .i64))), (26, none), (27, none), (28, none), (29, none), (30, none), (31, none)]
    | _ => none

def proc_New.L0 (priosA : Option Addr) (priosN : Nat) (R : Value → World → Prop) (tB : Nat) (t25 : Int) (w7 : World) (Nx0 : Int → World → Prop) : Prop :=
 br (decide (t25 < ((priosN : Nat) : Int))) (
 0 ≤ (t25 : Int) ∧ t25 < ((priosN : Nat) : Int) ∧ okP priosA (
 ∃ t28 : Int, w7.cell? ⟨(pb priosA), po priosA + t25.toNat * 1, none⟩ = some (.int .u8 t28) ∧
 br (decide (t28 > 63)) (
 R (.tuple #[.pointer none, .int .i64 172]) w7) (
 Nx0 (IntKind.wrap .i64 (t25 + 1)) w7))) (
 Calls Try.prog 34 #[.pointer (some ⟨tB, 0, none⟩)] w7 (fun e w8 => e = .returned (.tuple #[]) ∧
 R (.tuple #[.pointer (some ⟨tB, 0, none⟩), .int .i64 0]) w8))

def proc_New.K0 (priosA : Option Addr) (priosN : Nat) (R : Value → World → Prop) (tB : Nat) (w6 : World) : Prop :=
 ∃ I : Nat → Int → World → Prop, (∃ n, I n 0 w6) ∧ ∀ (n9 : Nat) (dead : Nat → Value) (w7 : World) (t25 : Int), I n9 t25 w7 →
 proc_New.L0 priosA priosN R tB t25 w7 (fun x0 w9 => ∃ m, m < n9 ∧ I m x0 w9)

def proc_New.F (priosA : Option Addr) (priosN : Nat) (priosC : Nat) (w : World) (R : Value → World → Prop) : Prop :=
 br (decide (((priosN : Nat) : Int) < 1)) (
 R (.tuple #[.pointer none, .int .i64 173]) w) (
 br (decide (((priosN : Nat) : Int) > 16)) (
 R (.tuple #[.pointer none, .int .i64 173]) w) (
 ∃ S : World → Prop, S w.drew ∧ drawC w fun w1 =>
 (newBlk w1 (.cells #[] 5 (0, 0)) fun b w2 =>
 S w2 ∧ (∃ t17A : Option Addr, ∃ t17N : Nat, ∃ t17C : Nat, ∃ w3 : World, (Builtin.append_ #[22, 22] 22 #[.slice (some ⟨b, 0, none⟩) 0 0, .slice priosA priosN priosC]).run Try.prog w2 = .ok (.slice t17A t17N t17C) w3 ∧
 S w3 ∧ ∃ t20A : Option Addr, ∃ t20N : Nat, ∃ t20C : Nat, ∃ w4 : World, (Instr.makeSlice 114 (.int .i64 ((priosN : Nat) : Int)) (.int .i64 ((priosN : Nat) : Int))).run Try.prog w3 = .ok (.slice t20A t20N t20C) w4 ∧
 S w4 ∧ newBlk w4 (.cells #[.slice t17A t17N t17C, .slice t20A t20N t20C, .int .i64 0] 116 (0, 0)) fun b1 w5 =>
 proc_New.K0 priosA priosN R b1 w5) ∧
 (∃ t20A1 : Option Addr, ∃ t20N1 : Nat, ∃ t20C1 : Nat, ∃ w9 : World, (Instr.makeSlice 114 (.int .i64 ((priosN : Nat) : Int)) (.int .i64 ((priosN : Nat) : Int))).run Try.prog w2 = .ok (.slice t20A1 t20N1 t20C1) w9 ∧
 S w9 ∧ ∃ t17A1 : Option Addr, ∃ t17N1 : Nat, ∃ t17C1 : Nat, ∃ w10 : World, (Builtin.append_ #[22, 22] 22 #[.slice (some ⟨b, 0, none⟩) 0 0, .slice priosA priosN priosC]).run Try.prog w9 = .ok (.slice t17A1 t17N1 t17C1) w10 ∧
 S w10 ∧ newBlk w10 (.cells #[.slice t17A1 t17N1 t17C1, .slice t20A1 t20N1 t20C1, .int .i64 0] 116 (0, 0)) fun b2 w11 =>
 proc_New.K0 priosA priosN R b2 w11)) ∧
 (∃ t20A2 : Option Addr, ∃ t20N2 : Nat, ∃ t20C2 : Nat, ∃ w12 : World, (Instr.makeSlice 114 (.int .i64 ((priosN : Nat) : Int)) (.int .i64 ((priosN : Nat) : Int))).run Try.prog w1 = .ok (.slice t20A2 t20N2 t20C2) w12 ∧
 S w12 ∧ newBlk w12 (.cells #[] 5 (0, 0)) fun b3 w13 =>
 S w13 ∧ ∃ t17A2 : Option Addr, ∃ t17N2 : Nat, ∃ t17C2 : Nat, ∃ w14 : World, (Builtin.append_ #[22, 22] 22 #[.slice (some ⟨b3, 0, none⟩) 0 0, .slice priosA priosN priosC]).run Try.prog w13 = .ok (.slice t17A2 t17N2 t17C2) w14 ∧
 S w14 ∧ newBlk w14 (.cells #[.slice t17A2 t17N2 t17C2, .slice t20A2 t20N2 t20C2, .int .i64 0] 116 (0, 0)) fun b4 w15 =>
 proc_New.K0 priosA priosN R b4 w15)))

theorem proc_New.vc (priosA : Option Addr) (priosN : Nat) (priosC : Nat) (w : World) (R : Value → World → Prop) : fnVC Try.prog proc_New.A Try.f20 [.slice priosA priosN priosC] w R = proc_New.F priosA priosN priosC w R := by kernel_rfl
theorem proc_New.calls (priosA : Option Addr) (priosN : Nat) (priosC : Nat) (w : World) (R : Value → World → Prop) (h : proc_New.F priosA priosN priosC w R) : Calls Try.prog 20 #[.slice priosA priosN priosC] w (Ret R) :=
  calls_of_vc mixed Try.func20 (Eq.mpr (proc_New.vc priosA priosN priosC w R) h)

/-! ### (*purlin/proc.Table).Len: function 28 -/
def proc_Table_Len.A : Ann where
  sched := fun i => match i with
    | _ => none
  loop := fun i => match i with
    | _ => none

def proc_Table_Len.F (tB : Nat) (tO : Nat) (w : World) (R : Value → World → Prop) : Prop :=
 ∃ t6A : Option Addr, ∃ t6N : Nat, ∃ t6C : Nat, w.cell? ⟨tB, tO + 1, none⟩ = some (.slice t6A t6N t6C) ∧
 R (.int .i64 ((t6N : Nat) : Int)) w

theorem proc_Table_Len.vc (tB : Nat) (tO : Nat) (w : World) (R : Value → World → Prop) : fnVC Try.prog proc_Table_Len.A Try.f28 [.pointer (some ⟨tB, tO, none⟩)] w R = proc_Table_Len.F tB tO w R := by kernel_rfl
theorem proc_Table_Len.calls (tB : Nat) (tO : Nat) (w : World) (R : Value → World → Prop) (h : proc_Table_Len.F tB tO w R) : Calls Try.prog 28 #[.pointer (some ⟨tB, tO, none⟩)] w (Ret R) :=
  calls_of_vc mixed Try.func28 (Eq.mpr (proc_Table_Len.vc tB tO w R) h)

/-! ### (*purlin/proc.Table).Reset: function 34 -/
def proc_Table_Reset.A : Ann where
  sched := fun i => match i with
    | 3 => some ((some 256), .still 5 false 31 <| .still 0 true 112 <| .still 1 true 113 <| .still 2 true 115 <| .still 4 true 111 <| .still 3 true 119 <| .eff 6 <| .still 7 false 127 <| .eff 8 <| .done)
    | _ => none
  loop := fun i => match i with
    | 1 => some [(2, none), (3, none), (9, some (.one (.int .i64))), (10, none), (11, none), (12, none), (13, none), (14, none), (15, none), (16, none), (17, none), (18, none), (19, none), (20, none), (21, none), (22, none)]
    | _ => none

def proc_Table_Reset.L0 (tB : Nat) (tO : Nat) (R : Value → World → Prop) (t7A : Option Addr) (t7N : Nat) (t9 : Int) (w1 : World) (Nx0 : Int → World → Prop) : Prop :=
 br (decide (t9 < ((t7N : Nat) : Int))) (
 0 ≤ (t9 : Int) ∧ t9 < ((t7N : Nat) : Int) ∧ okP t7A (
 ∃ t13 : Int, w1.cell? ⟨(pb t7A), po t7A + t9.toNat * 1, none⟩ = some (.int .u8 t13) ∧
 ∃ S : World → Prop, S w1.drew ∧ drawC w1 fun w2 =>
 ∃ t17A : Option Addr, ∃ t17N : Nat, ∃ t17C : Nat, (∀ w9 : World, S w9 → w9.cell? ⟨tB, tO + 1, none⟩ = some (.slice t17A t17N t17C)) ∧
 Calls Try.prog 71 #[.int .u8 t13] w2 (fun e w3 => ∃ t20 : Int, ∃ t201 : Bool, ∃ t202 : Int, ∃ t203 : Int, e = .returned (.agg #[.int .i64 t20, .bool t201, .int .i64 t202, .int .i64 t203]) ∧
 S w3 ∧ 0 ≤ (t9 : Int) ∧ t9 < ((t17N : Nat) : Int) ∧ okP t17A (
 storeC w3 (pb t17A) (po t17A + t9.toNat * 4) [.int .i64 t20, .bool t201, .int .i64 t202, .int .i64 t203] fun w4 =>
 Nx0 (IntKind.wrap .i64 (t9 + 1)) w4)))) (
 R (.tuple #[]) w1)

def proc_Table_Reset.F (tB : Nat) (tO : Nat) (w : World) (R : Value → World → Prop) : Prop :=
 ∃ t7A : Option Addr, ∃ t7N : Nat, ∃ t7C : Nat, w.cell? ⟨tB, tO, none⟩ = some (.slice t7A t7N t7C) ∧
 ∃ I : Nat → Int → World → Prop, (∃ n, I n 0 w) ∧ ∀ (n9 : Nat) (dead : Nat → Value) (w1 : World) (t9 : Int), I n9 t9 w1 →
 proc_Table_Reset.L0 tB tO R t7A t7N t9 w1 (fun x0 w9 => ∃ m, m < n9 ∧ I m x0 w9)

theorem proc_Table_Reset.vc (tB : Nat) (tO : Nat) (w : World) (R : Value → World → Prop) : fnVC Try.prog proc_Table_Reset.A Try.f34 [.pointer (some ⟨tB, tO, none⟩)] w R = proc_Table_Reset.F tB tO w R := by kernel_rfl
theorem proc_Table_Reset.calls (tB : Nat) (tO : Nat) (w : World) (R : Value → World → Prop) (h : proc_Table_Reset.F tB tO w R) : Calls Try.prog 34 #[.pointer (some ⟨tB, tO, none⟩)] w (Ret R) :=
  calls_of_vc mixed Try.func34 (Eq.mpr (proc_Table_Reset.vc tB tO w R) h)

/-! ### purlin/proc.dormant: function 71 -/
def proc_dormant.A : Ann where
  sched := fun i => match i with
    | _ => none
  loop := fun i => match i with
    | _ => none

def proc_dormant.F (prio : Int) (w : World) (R : Value → World → Prop) : Prop :=
 newBlk w (.cells #[.int .i64 0, .bool false, .int .i64 0, .int .i64 0] 121 (0, 0)) fun b w1 =>
 storeC w1 b 0 [.int .i64 0, .bool false, .int .i64 (IntKind.wrap .i64 prio), .int .i64 0] fun w2 =>
 ∃ r : Int, w2.cell? ⟨b, 0, none⟩ = some (.int .i64 r) ∧ ∃ r1 : Bool, w2.cell? ⟨b, 1, none⟩ = some (.bool r1) ∧ ∃ r2 : Int, w2.cell? ⟨b, 2, none⟩ = some (.int .i64 r2) ∧ ∃ r3 : Int, w2.cell? ⟨b, 3, none⟩ = some (.int .i64 r3) ∧ 
 R (.agg #[.int .i64 r, .bool r1, .int .i64 r2, .int .i64 r3]) w2

theorem proc_dormant.vc (prio : Int) (w : World) (R : Value → World → Prop) : fnVC Try.prog proc_dormant.A Try.f71 [.int .u8 prio] w R = proc_dormant.F prio w R := by kernel_rfl
theorem proc_dormant.calls (prio : Int) (w : World) (R : Value → World → Prop) (h : proc_dormant.F prio w R) : Calls Try.prog 71 #[.int .u8 prio] w (Ret R) :=
  calls_of_vc mixed Try.func71 (Eq.mpr (proc_dormant.vc prio w R) h)

/-! ### purlin/proc.may: function 64 -/
def proc_may.A : Ann where
  sched := fun i => match i with
    | _ => none
  loop := fun i => match i with
    | _ => none

def proc_may.F (p : Int) (p1 : Bool) (p2 : Int) (p3 : Int) (w : World) (R : Value → World → Prop) : Prop :=
 newBlk w (.cells #[.int .i64 p, .bool p1, .int .i64 p2, .int .i64 p3] 121 (0, 0)) fun b w1 =>
 ∃ t4 : Int, w1.cell? ⟨b, 0, none⟩ = some (.int .i64 t4) ∧
 br (t4 == 1) (
 ∃ t8 : Bool, w1.cell? ⟨b, 1, none⟩ = some (.bool t8) ∧
 R (.bool (!t8)) w1) (
 R (.bool false) w1)

theorem proc_may.vc (p : Int) (p1 : Bool) (p2 : Int) (p3 : Int) (w : World) (R : Value → World → Prop) : fnVC Try.prog proc_may.A Try.f64 [.agg #[.int .i64 p, .bool p1, .int .i64 p2, .int .i64 p3]] w R = proc_may.F p p1 p2 p3 w R := by kernel_rfl
theorem proc_may.calls (p : Int) (p1 : Bool) (p2 : Int) (p3 : Int) (w : World) (R : Value → World → Prop) (h : proc_may.F p p1 p2 p3 w R) : Calls Try.prog 64 #[.agg #[.int .i64 p, .bool p1, .int .i64 p2, .int .i64 p3]] w (Ret R) :=
  calls_of_vc mixed Try.func64 (Eq.mpr (proc_may.vc p p1 p2 p3 w R) h)

/-! ### purlin/proc.alive: function 90 -/
def proc_alive.A : Ann where
  sched := fun i => match i with
    | _ => none
  loop := fun i => match i with
    | _ => none

def proc_alive.F (p : Int) (p1 : Bool) (p2 : Int) (p3 : Int) (w : World) (R : Value → World → Prop) : Prop :=
 newBlk w (.cells #[.int .i64 p, .bool p1, .int .i64 p2, .int .i64 p3] 121 (0, 0)) fun b w1 =>
 ∃ t4 : Int, w1.cell? ⟨b, 0, none⟩ = some (.int .i64 t4) ∧
 R (.bool (t4 != 0)) w1

theorem proc_alive.vc (p : Int) (p1 : Bool) (p2 : Int) (p3 : Int) (w : World) (R : Value → World → Prop) : fnVC Try.prog proc_alive.A Try.f90 [.agg #[.int .i64 p, .bool p1, .int .i64 p2, .int .i64 p3]] w R = proc_alive.F p p1 p2 p3 w R := by kernel_rfl
theorem proc_alive.calls (p : Int) (p1 : Bool) (p2 : Int) (p3 : Int) (w : World) (R : Value → World → Prop) (h : proc_alive.F p p1 p2 p3 w R) : Calls Try.prog 90 #[.agg #[.int .i64 p, .bool p1, .int .i64 p2, .int .i64 p3]] w (Ret R) :=
  calls_of_vc mixed Try.func90 (Eq.mpr (proc_alive.vc p p1 p2 p3 w R) h)

/-! ### (*purlin/proc.Table).with: function 69 -/
def proc_Table_with.A : Ann where
  sched := fun i => match i with
    | 11 => some (none, .still 0 false 496 <| .still 1 false 497 <| .still 2 false 499 <| .still 3 false 503 <| .still 4 false 495 <| .still 5 false 31 <| .still 6 false 63 <| .still 7 false 127 <| .still 8 false 255 <| .still 9 false 511 <| .still 10 false 1023 <| .eff 11 <| .done)
    | _ => none
  loop := fun i => match i with
    | _ => none

def proc_Table_with.K0 (tB : Nat) (tO : Nat) (i : Int) (R : Value → World → Prop) (w4 : World) : Prop :=
 ∃ t57 : Int, w4.cell? ⟨tB, tO + 2, none⟩ = some (.int .i64 t57) ∧
 storeC w4 tB (tO + 2) [.int .i64 (IntKind.wrap .i64 (t57 + 1))] fun w5 =>
 drawC w5 fun w6 =>
 ∃ t64A : Option Addr, ∃ t64N : Nat, ∃ t64C : Nat, w6.cell? ⟨tB, tO + 1, none⟩ = some (.slice t64A t64N t64C) ∧
 ∃ t69 : Int, w6.cell? ⟨tB, tO + 2, none⟩ = some (.int .i64 t69) ∧
 0 ≤ (i : Int) ∧ i < ((t64N : Nat) : Int) ∧ okP t64A (
 storeC w6 (pb t64A) (po t64A + i.toNat * 4 + 3) [.int .i64 t69] fun w7 =>
 R (.int .i64 0) w7)

def proc_Table_with.F (tB : Nat) (tO : Nat) (i : Int) (isV : Value) (then1 : Int) (doV : Value) (w : World) (R : Value → World → Prop) : Prop :=
 br (decide (i < 0)) (
 R (.int .i64 170) w) (
 ∃ t19A : Option Addr, ∃ t19N : Nat, ∃ t19C : Nat, w.cell? ⟨tB, tO + 1, none⟩ = some (.slice t19A t19N t19C) ∧
 br (decide (i ≥ ((t19N : Nat) : Int))) (
 R (.int .i64 170) w) (
 ∃ t28A : Option Addr, ∃ t28N : Nat, ∃ t28C : Nat, w.cell? ⟨tB, tO + 1, none⟩ = some (.slice t28A t28N t28C) ∧
 0 ≤ (i : Int) ∧ i < ((t28N : Nat) : Int) ∧ okP t28A (
 ∃ t31 : Int, w.cell? ⟨(pb t28A), po t28A + i.toNat * 4, none⟩ = some (.int .i64 t31) ∧ ∃ t311 : Bool, w.cell? ⟨(pb t28A), po t28A + i.toNat * 4 + 1, none⟩ = some (.bool t311) ∧ ∃ t312 : Int, w.cell? ⟨(pb t28A), po t28A + i.toNat * 4 + 2, none⟩ = some (.int .i64 t312) ∧ ∃ t313 : Int, w.cell? ⟨(pb t28A), po t28A + i.toNat * 4 + 3, none⟩ = some (.int .i64 t313) ∧ 
 ∃ (f1 : FuncId) (args1 : Array Value) (w10 : World), (callV (isV) #[.agg #[.int .i64 t31, .bool t311, .int .i64 t312, .int .i64 t313]]).run Try.prog w = .ok (.enter f1 args1) w10 ∧
 Calls Try.prog f1 args1 w10 (fun e w1 => ∃ t32 : Bool, e = .returned (.bool t32) ∧
 br (!t32) (
 R (.int .i64 171) w1) (
 ∃ t38A : Option Addr, ∃ t38N : Nat, ∃ t38C : Nat, w1.cell? ⟨tB, tO + 1, none⟩ = some (.slice t38A t38N t38C) ∧
 0 ≤ (i : Int) ∧ i < ((t38N : Nat) : Int) ∧ okP t38A (
 ∃ (f : FuncId) (args : Array Value) (w9 : World), (callV (doV) #[.pointer (some ⟨(pb t38A), po t38A + i.toNat * 4, none⟩)]).run Try.prog w1 = .ok (.enter f args) w9 ∧
 Calls Try.prog f args w9 (fun e w2 => e = .returned (.tuple #[]) ∧
 br (then1 == 1) (
 ∃ t50A : Option Addr, ∃ t50N : Nat, ∃ t50C : Nat, w2.cell? ⟨tB, tO + 1, none⟩ = some (.slice t50A t50N t50C) ∧
 0 ≤ (i : Int) ∧ i < ((t50N : Nat) : Int) ∧ okP t50A (
 storeC w2 (pb t50A) (po t50A + i.toNat * 4) [.int .i64 1] fun w3 =>
 proc_Table_with.K0 tB tO i R w3)) (
 br (then1 == 2) (
 proc_Table_with.K0 tB tO i R w2) (
 R (.int .i64 0) w2)))))))))

theorem proc_Table_with.vc (tB : Nat) (tO : Nat) (i : Int) (isV : Value) (then1 : Int) (doV : Value) (w : World) (R : Value → World → Prop) : fnVC Try.prog proc_Table_with.A Try.f69 [.pointer (some ⟨tB, tO, none⟩), .int .i64 i, isV, .int .i64 then1, doV] w R = proc_Table_with.F tB tO i isV then1 doV w R := by kernel_rfl
theorem proc_Table_with.calls (tB : Nat) (tO : Nat) (i : Int) (isV : Value) (then1 : Int) (doV : Value) (w : World) (R : Value → World → Prop) (h : proc_Table_with.F tB tO i isV then1 doV w R) : Calls Try.prog 69 #[.pointer (some ⟨tB, tO, none⟩), .int .i64 i, isV, .int .i64 then1, doV] w (Ret R) :=
  calls_of_vc mixed Try.func69 (Eq.mpr (proc_Table_with.vc tB tO i isV then1 doV w R) h)

/-! ### (*purlin/proc.Table).Start: function 55 -/
def proc_Table_Start.A : Ann where
  sched := fun i => match i with
    | _ => none
  loop := fun i => match i with
    | _ => none

def proc_Table_Start.F (tB : Nat) (tO : Nat) (i : Int) (w : World) (R : Value → World → Prop) : Prop :=
 newBlk w (.cells #[.pointer (some ⟨tB, tO, none⟩)] 37 (0, 0)) fun b w1 =>
 newBlk w1 (.cells #[.int .i64 i] 3 (0, 0)) fun b1 w2 =>
 ∃ t7P : Option Addr, w2.cell? ⟨b, 0, none⟩ = some (.pointer t7P) ∧
 ∃ t8 : Int, w2.cell? ⟨b1, 0, none⟩ = some (.int .i64 t8) ∧
 Calls Try.prog 69 #[.pointer t7P, .int .i64 t8, .func (.func 85) #[] #[.pointer (some ⟨b, 0, none⟩), .pointer (some ⟨b1, 0, none⟩)], .int .i64 1, .func (.func 86) #[] #[]] w2 (fun e w3 => ∃ t10 : Int, e = .returned (.int .i64 t10) ∧
 R (.int .i64 t10) w3)

theorem proc_Table_Start.vc (tB : Nat) (tO : Nat) (i : Int) (w : World) (R : Value → World → Prop) : fnVC Try.prog proc_Table_Start.A Try.f55 [.pointer (some ⟨tB, tO, none⟩), .int .i64 i] w R = proc_Table_Start.F tB tO i w R := by kernel_rfl
theorem proc_Table_Start.calls (tB : Nat) (tO : Nat) (i : Int) (w : World) (R : Value → World → Prop) (h : proc_Table_Start.F tB tO i w R) : Calls Try.prog 55 #[.pointer (some ⟨tB, tO, none⟩), .int .i64 i] w (Ret R) :=
  calls_of_vc mixed Try.func55 (Eq.mpr (proc_Table_Start.vc tB tO i w R) h)

/-! ### (*purlin/proc.Table).Start$1: function 85 -/
def proc_Table_Start_1.A : Ann where
  sched := fun i => match i with
    | 1 => some ((some 0), .still 1 false 33 <| .still 2 false 35 <| .still 3 false 39 <| .still 4 false 47 <| .still 5 false 31 <| .still 6 false 63 <| .still 7 false 127 <| .still 0 true 510 <| .eff 8 <| .still 9 false 511 <| .still 10 false 1023 <| .done)
    | _ => none
  loop := fun i => match i with
    | _ => none

def proc_Table_Start_1.F (p : Int) (p1 : Bool) (p2 : Int) (p3 : Int) (t1B : Nat) (t1O : Nat) (t2B : Nat) (t2O : Nat) (w : World) (R : Value → World → Prop) : Prop :=
 newBlk w (.cells #[.int .i64 p, .bool p1, .int .i64 p2, .int .i64 p3] 121 (0, 0)) fun b w1 =>
 ∃ S : World → Prop, S w1.drew ∧ drawC w1 fun w2 =>
 ∃ t6P : Option Addr, w2.cell? ⟨t1B, t1O, none⟩ = some (.pointer t6P) ∧
 okP t6P (
 ∃ t9A : Option Addr, ∃ t9N : Nat, ∃ t9C : Nat, w2.cell? ⟨(pb t6P), po t6P, none⟩ = some (.slice t9A t9N t9C) ∧
 ∃ t10 : Int, w2.cell? ⟨t2B, t2O, none⟩ = some (.int .i64 t10) ∧
 0 ≤ (t10 : Int) ∧ t10 < ((t9N : Nat) : Int) ∧ okP t9A (
 ∃ t12 : Int, w2.cell? ⟨(pb t9A), po t9A + t10.toNat * 1, none⟩ = some (.int .u8 t12) ∧
 ∃ t5 : Int, (∀ w9 : World, S w9 → w9.cell? ⟨b, 0, none⟩ = some (.int .i64 t5)) ∧ ∃ t51 : Bool, (∀ w9 : World, S w9 → w9.cell? ⟨b, 1, none⟩ = some (.bool t51)) ∧ ∃ t52 : Int, (∀ w9 : World, S w9 → w9.cell? ⟨b, 2, none⟩ = some (.int .i64 t52)) ∧ ∃ t53 : Int, (∀ w9 : World, S w9 → w9.cell? ⟨b, 3, none⟩ = some (.int .i64 t53)) ∧ 
 Calls Try.prog 71 #[.int .u8 t12] w2 (fun e w3 => ∃ t13 : Int, ∃ t131 : Bool, ∃ t132 : Int, ∃ t133 : Int, e = .returned (.agg #[.int .i64 t13, .bool t131, .int .i64 t132, .int .i64 t133]) ∧
 S w3 ∧ ∃ q : Bool, (eqRun .eql 121 (.tmp 5) (.tmp 13) (.agg #[.int .i64 t5, .bool t51, .int .i64 t52, .int .i64 t53]) (.agg #[.int .i64 t13, .bool t131, .int .i64 t132, .int .i64 t133])).run Try.prog w3 = .ok (.bool q) w3 ∧
 R (.bool q) w3)))

theorem proc_Table_Start_1.vc (p : Int) (p1 : Bool) (p2 : Int) (p3 : Int) (t1B : Nat) (t1O : Nat) (t2B : Nat) (t2O : Nat) (w : World) (R : Value → World → Prop) : fnVC Try.prog proc_Table_Start_1.A Try.f85 [.agg #[.int .i64 p, .bool p1, .int .i64 p2, .int .i64 p3], .pointer (some ⟨t1B, t1O, none⟩), .pointer (some ⟨t2B, t2O, none⟩)] w R = proc_Table_Start_1.F p p1 p2 p3 t1B t1O t2B t2O w R := by kernel_rfl
theorem proc_Table_Start_1.calls (p : Int) (p1 : Bool) (p2 : Int) (p3 : Int) (t1B : Nat) (t1O : Nat) (t2B : Nat) (t2O : Nat) (w : World) (R : Value → World → Prop) (h : proc_Table_Start_1.F p p1 p2 p3 t1B t1O t2B t2O w R) : Calls Try.prog 85 #[.agg #[.int .i64 p, .bool p1, .int .i64 p2, .int .i64 p3], .pointer (some ⟨t1B, t1O, none⟩), .pointer (some ⟨t2B, t2O, none⟩)] w (Ret R) :=
  calls_of_vc mixed Try.func85 (Eq.mpr (proc_Table_Start_1.vc p p1 p2 p3 t1B t1O t2B t2O w R) h)

/-! ### (*purlin/proc.Table).Start$2: function 86 -/
def proc_Table_Start_2.A : Ann where
  sched := fun i => match i with
    | _ => none
  loop := fun i => match i with
    | _ => none

def proc_Table_Start_2.F (t0B : Nat) (t0O : Nat) (w : World) (R : Value → World → Prop) : Prop :=
 R (.tuple #[]) w

theorem proc_Table_Start_2.vc (t0B : Nat) (t0O : Nat) (w : World) (R : Value → World → Prop) : fnVC Try.prog proc_Table_Start_2.A Try.f86 [.pointer (some ⟨t0B, t0O, none⟩)] w R = proc_Table_Start_2.F t0B t0O w R := by kernel_rfl
theorem proc_Table_Start_2.calls (t0B : Nat) (t0O : Nat) (w : World) (R : Value → World → Prop) (h : proc_Table_Start_2.F t0B t0O w R) : Calls Try.prog 86 #[.pointer (some ⟨t0B, t0O, none⟩)] w (Ret R) :=
  calls_of_vc mixed Try.func86 (Eq.mpr (proc_Table_Start_2.vc t0B t0O w R) h)

/-! ### (*purlin/proc.Table).Stop: function 59 -/
def proc_Table_Stop.A : Ann where
  sched := fun i => match i with
    | _ => none
  loop := fun i => match i with
    | _ => none

def proc_Table_Stop.F (tB : Nat) (tO : Nat) (i : Int) (w : World) (R : Value → World → Prop) : Prop :=
 newBlk w (.cells #[.pointer (some ⟨tB, tO, none⟩)] 37 (0, 0)) fun b w1 =>
 newBlk w1 (.cells #[.int .i64 i] 3 (0, 0)) fun b1 w2 =>
 ∃ t5P : Option Addr, w2.cell? ⟨b, 0, none⟩ = some (.pointer t5P) ∧
 ∃ t6 : Int, w2.cell? ⟨b1, 0, none⟩ = some (.int .i64 t6) ∧
 Calls Try.prog 69 #[.pointer t5P, .int .i64 t6, .func (.func 90) #[] #[], .int .i64 0, .func (.func 91) #[] #[.pointer (some ⟨b, 0, none⟩), .pointer (some ⟨b1, 0, none⟩)]] w2 (fun e w3 => ∃ t8 : Int, e = .returned (.int .i64 t8) ∧
 R (.int .i64 t8) w3)

theorem proc_Table_Stop.vc (tB : Nat) (tO : Nat) (i : Int) (w : World) (R : Value → World → Prop) : fnVC Try.prog proc_Table_Stop.A Try.f59 [.pointer (some ⟨tB, tO, none⟩), .int .i64 i] w R = proc_Table_Stop.F tB tO i w R := by kernel_rfl
theorem proc_Table_Stop.calls (tB : Nat) (tO : Nat) (i : Int) (w : World) (R : Value → World → Prop) (h : proc_Table_Stop.F tB tO i w R) : Calls Try.prog 59 #[.pointer (some ⟨tB, tO, none⟩), .int .i64 i] w (Ret R) :=
  calls_of_vc mixed Try.func59 (Eq.mpr (proc_Table_Stop.vc tB tO i w R) h)

/-! ### (*purlin/proc.Table).Stop$1: function 91 -/
def proc_Table_Stop_1.A : Ann where
  sched := fun i => match i with
    | 0 => some (none, .still 1 false 33 <| .still 2 false 35 <| .still 3 false 39 <| .still 4 false 47 <| .still 5 false 31 <| .still 6 false 63 <| .still 7 false 127 <| .still 0 true 510 <| .eff 8 <| .still 9 false 511 <| .eff 10 <| .done)
    | _ => none
  loop := fun i => match i with
    | _ => none

def proc_Table_Stop_1.F (pB : Nat) (pO : Nat) (t1B : Nat) (t1O : Nat) (t2B : Nat) (t2O : Nat) (w : World) (R : Value → World → Prop) : Prop :=
 drawC w fun w1 =>
 ∃ t5P : Option Addr, w1.cell? ⟨t1B, t1O, none⟩ = some (.pointer t5P) ∧
 okP t5P (
 ∃ t8A : Option Addr, ∃ t8N : Nat, ∃ t8C : Nat, w1.cell? ⟨(pb t5P), po t5P, none⟩ = some (.slice t8A t8N t8C) ∧
 ∃ t9 : Int, w1.cell? ⟨t2B, t2O, none⟩ = some (.int .i64 t9) ∧
 0 ≤ (t9 : Int) ∧ t9 < ((t8N : Nat) : Int) ∧ okP t8A (
 ∃ t11 : Int, w1.cell? ⟨(pb t8A), po t8A + t9.toNat * 1, none⟩ = some (.int .u8 t11) ∧
 Calls Try.prog 71 #[.int .u8 t11] w1 (fun e w2 => ∃ t12 : Int, ∃ t121 : Bool, ∃ t122 : Int, ∃ t123 : Int, e = .returned (.agg #[.int .i64 t12, .bool t121, .int .i64 t122, .int .i64 t123]) ∧
 storeC w2 pB pO [.int .i64 t12, .bool t121, .int .i64 t122, .int .i64 t123] fun w3 =>
 R (.tuple #[]) w3)))

theorem proc_Table_Stop_1.vc (pB : Nat) (pO : Nat) (t1B : Nat) (t1O : Nat) (t2B : Nat) (t2O : Nat) (w : World) (R : Value → World → Prop) : fnVC Try.prog proc_Table_Stop_1.A Try.f91 [.pointer (some ⟨pB, pO, none⟩), .pointer (some ⟨t1B, t1O, none⟩), .pointer (some ⟨t2B, t2O, none⟩)] w R = proc_Table_Stop_1.F pB pO t1B t1O t2B t2O w R := by kernel_rfl
theorem proc_Table_Stop_1.calls (pB : Nat) (pO : Nat) (t1B : Nat) (t1O : Nat) (t2B : Nat) (t2O : Nat) (w : World) (R : Value → World → Prop) (h : proc_Table_Stop_1.F pB pO t1B t1O t2B t2O w R) : Calls Try.prog 91 #[.pointer (some ⟨pB, pO, none⟩), .pointer (some ⟨t1B, t1O, none⟩), .pointer (some ⟨t2B, t2O, none⟩)] w (Ret R) :=
  calls_of_vc mixed Try.func91 (Eq.mpr (proc_Table_Stop_1.vc pB pO t1B t1O t2B t2O w R) h)

/-! ### (*purlin/proc.Table).Block: function 57 -/
def proc_Table_Block.A : Ann where
  sched := fun i => match i with
    | _ => none
  loop := fun i => match i with
    | _ => none

def proc_Table_Block.F (tB : Nat) (tO : Nat) (i : Int) (w : World) (R : Value → World → Prop) : Prop :=
 Calls Try.prog 69 #[.pointer (some ⟨tB, tO, none⟩), .int .i64 i, .func (.func 64) #[] #[], .int .i64 0, .func (.func 87) #[] #[]] w (fun e w1 => ∃ t7 : Int, e = .returned (.int .i64 t7) ∧
 R (.int .i64 t7) w1)

theorem proc_Table_Block.vc (tB : Nat) (tO : Nat) (i : Int) (w : World) (R : Value → World → Prop) : fnVC Try.prog proc_Table_Block.A Try.f57 [.pointer (some ⟨tB, tO, none⟩), .int .i64 i] w R = proc_Table_Block.F tB tO i w R := by kernel_rfl
theorem proc_Table_Block.calls (tB : Nat) (tO : Nat) (i : Int) (w : World) (R : Value → World → Prop) (h : proc_Table_Block.F tB tO i w R) : Calls Try.prog 57 #[.pointer (some ⟨tB, tO, none⟩), .int .i64 i] w (Ret R) :=
  calls_of_vc mixed Try.func57 (Eq.mpr (proc_Table_Block.vc tB tO i w R) h)

/-! ### (*purlin/proc.Table).Block$1: function 87 -/
def proc_Table_Block_1.A : Ann where
  sched := fun i => match i with
    | _ => none
  loop := fun i => match i with
    | _ => none

def proc_Table_Block_1.F (pB : Nat) (pO : Nat) (w : World) (R : Value → World → Prop) : Prop :=
 storeC w pB pO [.int .i64 2] fun w1 =>
 R (.tuple #[]) w1

theorem proc_Table_Block_1.vc (pB : Nat) (pO : Nat) (w : World) (R : Value → World → Prop) : fnVC Try.prog proc_Table_Block_1.A Try.f87 [.pointer (some ⟨pB, pO, none⟩)] w R = proc_Table_Block_1.F pB pO w R := by kernel_rfl
theorem proc_Table_Block_1.calls (pB : Nat) (pO : Nat) (w : World) (R : Value → World → Prop) (h : proc_Table_Block_1.F pB pO w R) : Calls Try.prog 87 #[.pointer (some ⟨pB, pO, none⟩)] w (Ret R) :=
  calls_of_vc mixed Try.func87 (Eq.mpr (proc_Table_Block_1.vc pB pO w R) h)

/-! ### (*purlin/proc.Table).Wake: function 58 -/
def proc_Table_Wake.A : Ann where
  sched := fun i => match i with
    | _ => none
  loop := fun i => match i with
    | _ => none

def proc_Table_Wake.F (tB : Nat) (tO : Nat) (i : Int) (w : World) (R : Value → World → Prop) : Prop :=
 Calls Try.prog 69 #[.pointer (some ⟨tB, tO, none⟩), .int .i64 i, .func (.func 88) #[] #[], .int .i64 1, .func (.func 89) #[] #[]] w (fun e w1 => ∃ t7 : Int, e = .returned (.int .i64 t7) ∧
 R (.int .i64 t7) w1)

theorem proc_Table_Wake.vc (tB : Nat) (tO : Nat) (i : Int) (w : World) (R : Value → World → Prop) : fnVC Try.prog proc_Table_Wake.A Try.f58 [.pointer (some ⟨tB, tO, none⟩), .int .i64 i] w R = proc_Table_Wake.F tB tO i w R := by kernel_rfl
theorem proc_Table_Wake.calls (tB : Nat) (tO : Nat) (i : Int) (w : World) (R : Value → World → Prop) (h : proc_Table_Wake.F tB tO i w R) : Calls Try.prog 58 #[.pointer (some ⟨tB, tO, none⟩), .int .i64 i] w (Ret R) :=
  calls_of_vc mixed Try.func58 (Eq.mpr (proc_Table_Wake.vc tB tO i w R) h)

/-! ### (*purlin/proc.Table).Wake$1: function 88 -/
def proc_Table_Wake_1.A : Ann where
  sched := fun i => match i with
    | _ => none
  loop := fun i => match i with
    | _ => none

def proc_Table_Wake_1.F (p : Int) (p1 : Bool) (p2 : Int) (p3 : Int) (w : World) (R : Value → World → Prop) : Prop :=
 newBlk w (.cells #[.int .i64 p, .bool p1, .int .i64 p2, .int .i64 p3] 121 (0, 0)) fun b w1 =>
 ∃ t4 : Int, w1.cell? ⟨b, 0, none⟩ = some (.int .i64 t4) ∧
 R (.bool (t4 == 2)) w1

theorem proc_Table_Wake_1.vc (p : Int) (p1 : Bool) (p2 : Int) (p3 : Int) (w : World) (R : Value → World → Prop) : fnVC Try.prog proc_Table_Wake_1.A Try.f88 [.agg #[.int .i64 p, .bool p1, .int .i64 p2, .int .i64 p3]] w R = proc_Table_Wake_1.F p p1 p2 p3 w R := by kernel_rfl
theorem proc_Table_Wake_1.calls (p : Int) (p1 : Bool) (p2 : Int) (p3 : Int) (w : World) (R : Value → World → Prop) (h : proc_Table_Wake_1.F p p1 p2 p3 w R) : Calls Try.prog 88 #[.agg #[.int .i64 p, .bool p1, .int .i64 p2, .int .i64 p3]] w (Ret R) :=
  calls_of_vc mixed Try.func88 (Eq.mpr (proc_Table_Wake_1.vc p p1 p2 p3 w R) h)

/-! ### (*purlin/proc.Table).Wake$2: function 89 -/
def proc_Table_Wake_2.A : Ann where
  sched := fun i => match i with
    | _ => none
  loop := fun i => match i with
    | _ => none

def proc_Table_Wake_2.F (t0B : Nat) (t0O : Nat) (w : World) (R : Value → World → Prop) : Prop :=
 R (.tuple #[]) w

theorem proc_Table_Wake_2.vc (t0B : Nat) (t0O : Nat) (w : World) (R : Value → World → Prop) : fnVC Try.prog proc_Table_Wake_2.A Try.f89 [.pointer (some ⟨t0B, t0O, none⟩)] w R = proc_Table_Wake_2.F t0B t0O w R := by kernel_rfl
theorem proc_Table_Wake_2.calls (t0B : Nat) (t0O : Nat) (w : World) (R : Value → World → Prop) (h : proc_Table_Wake_2.F t0B t0O w R) : Calls Try.prog 89 #[.pointer (some ⟨t0B, t0O, none⟩)] w (Ret R) :=
  calls_of_vc mixed Try.func89 (Eq.mpr (proc_Table_Wake_2.vc t0B t0O w R) h)

/-! ### (*purlin/proc.Table).Suspend: function 60 -/
def proc_Table_Suspend.A : Ann where
  sched := fun i => match i with
    | _ => none
  loop := fun i => match i with
    | _ => none

def proc_Table_Suspend.F (tB : Nat) (tO : Nat) (i : Int) (w : World) (R : Value → World → Prop) : Prop :=
 Calls Try.prog 69 #[.pointer (some ⟨tB, tO, none⟩), .int .i64 i, .func (.func 92) #[] #[], .int .i64 0, .func (.func 93) #[] #[]] w (fun e w1 => ∃ t7 : Int, e = .returned (.int .i64 t7) ∧
 R (.int .i64 t7) w1)

theorem proc_Table_Suspend.vc (tB : Nat) (tO : Nat) (i : Int) (w : World) (R : Value → World → Prop) : fnVC Try.prog proc_Table_Suspend.A Try.f60 [.pointer (some ⟨tB, tO, none⟩), .int .i64 i] w R = proc_Table_Suspend.F tB tO i w R := by kernel_rfl
theorem proc_Table_Suspend.calls (tB : Nat) (tO : Nat) (i : Int) (w : World) (R : Value → World → Prop) (h : proc_Table_Suspend.F tB tO i w R) : Calls Try.prog 60 #[.pointer (some ⟨tB, tO, none⟩), .int .i64 i] w (Ret R) :=
  calls_of_vc mixed Try.func60 (Eq.mpr (proc_Table_Suspend.vc tB tO i w R) h)

/-! ### (*purlin/proc.Table).Suspend$1: function 92 -/
def proc_Table_Suspend_1.A : Ann where
  sched := fun i => match i with
    | _ => none
  loop := fun i => match i with
    | _ => none

def proc_Table_Suspend_1.F (p : Int) (p1 : Bool) (p2 : Int) (p3 : Int) (w : World) (R : Value → World → Prop) : Prop :=
 newBlk w (.cells #[.int .i64 p, .bool p1, .int .i64 p2, .int .i64 p3] 121 (0, 0)) fun b w1 =>
 ∃ t3 : Int, w1.cell? ⟨b, 0, none⟩ = some (.int .i64 t3) ∧ ∃ t31 : Bool, w1.cell? ⟨b, 1, none⟩ = some (.bool t31) ∧ ∃ t32 : Int, w1.cell? ⟨b, 2, none⟩ = some (.int .i64 t32) ∧ ∃ t33 : Int, w1.cell? ⟨b, 3, none⟩ = some (.int .i64 t33) ∧ 
 Calls Try.prog 90 #[.agg #[.int .i64 t3, .bool t31, .int .i64 t32, .int .i64 t33]] w1 (fun e w2 => ∃ t4 : Bool, e = .returned (.bool t4) ∧
 br t4 (
 ∃ t7 : Bool, w2.cell? ⟨b, 1, none⟩ = some (.bool t7) ∧
 R (.bool (!t7)) w2) (
 R (.bool false) w2))

theorem proc_Table_Suspend_1.vc (p : Int) (p1 : Bool) (p2 : Int) (p3 : Int) (w : World) (R : Value → World → Prop) : fnVC Try.prog proc_Table_Suspend_1.A Try.f92 [.agg #[.int .i64 p, .bool p1, .int .i64 p2, .int .i64 p3]] w R = proc_Table_Suspend_1.F p p1 p2 p3 w R := by kernel_rfl
theorem proc_Table_Suspend_1.calls (p : Int) (p1 : Bool) (p2 : Int) (p3 : Int) (w : World) (R : Value → World → Prop) (h : proc_Table_Suspend_1.F p p1 p2 p3 w R) : Calls Try.prog 92 #[.agg #[.int .i64 p, .bool p1, .int .i64 p2, .int .i64 p3]] w (Ret R) :=
  calls_of_vc mixed Try.func92 (Eq.mpr (proc_Table_Suspend_1.vc p p1 p2 p3 w R) h)

/-! ### (*purlin/proc.Table).Suspend$2: function 93 -/
def proc_Table_Suspend_2.A : Ann where
  sched := fun i => match i with
    | _ => none
  loop := fun i => match i with
    | _ => none

def proc_Table_Suspend_2.F (pB : Nat) (pO : Nat) (w : World) (R : Value → World → Prop) : Prop :=
 storeC w pB (pO + 1) [.bool true] fun w1 =>
 R (.tuple #[]) w1

theorem proc_Table_Suspend_2.vc (pB : Nat) (pO : Nat) (w : World) (R : Value → World → Prop) : fnVC Try.prog proc_Table_Suspend_2.A Try.f93 [.pointer (some ⟨pB, pO, none⟩)] w R = proc_Table_Suspend_2.F pB pO w R := by kernel_rfl
theorem proc_Table_Suspend_2.calls (pB : Nat) (pO : Nat) (w : World) (R : Value → World → Prop) (h : proc_Table_Suspend_2.F pB pO w R) : Calls Try.prog 93 #[.pointer (some ⟨pB, pO, none⟩)] w (Ret R) :=
  calls_of_vc mixed Try.func93 (Eq.mpr (proc_Table_Suspend_2.vc pB pO w R) h)

/-! ### (*purlin/proc.Table).Resume: function 61 -/
def proc_Table_Resume.A : Ann where
  sched := fun i => match i with
    | _ => none
  loop := fun i => match i with
    | _ => none

def proc_Table_Resume.F (tB : Nat) (tO : Nat) (i : Int) (w : World) (R : Value → World → Prop) : Prop :=
 Calls Try.prog 69 #[.pointer (some ⟨tB, tO, none⟩), .int .i64 i, .func (.func 94) #[] #[], .int .i64 2, .func (.func 95) #[] #[]] w (fun e w1 => ∃ t7 : Int, e = .returned (.int .i64 t7) ∧
 R (.int .i64 t7) w1)

theorem proc_Table_Resume.vc (tB : Nat) (tO : Nat) (i : Int) (w : World) (R : Value → World → Prop) : fnVC Try.prog proc_Table_Resume.A Try.f61 [.pointer (some ⟨tB, tO, none⟩), .int .i64 i] w R = proc_Table_Resume.F tB tO i w R := by kernel_rfl
theorem proc_Table_Resume.calls (tB : Nat) (tO : Nat) (i : Int) (w : World) (R : Value → World → Prop) (h : proc_Table_Resume.F tB tO i w R) : Calls Try.prog 61 #[.pointer (some ⟨tB, tO, none⟩), .int .i64 i] w (Ret R) :=
  calls_of_vc mixed Try.func61 (Eq.mpr (proc_Table_Resume.vc tB tO i w R) h)

/-! ### (*purlin/proc.Table).Resume$1: function 94 -/
def proc_Table_Resume_1.A : Ann where
  sched := fun i => match i with
    | _ => none
  loop := fun i => match i with
    | _ => none

def proc_Table_Resume_1.F (p : Int) (p1 : Bool) (p2 : Int) (p3 : Int) (w : World) (R : Value → World → Prop) : Prop :=
 newBlk w (.cells #[.int .i64 p, .bool p1, .int .i64 p2, .int .i64 p3] 121 (0, 0)) fun b w1 =>
 ∃ t4 : Bool, w1.cell? ⟨b, 1, none⟩ = some (.bool t4) ∧
 R (.bool t4) w1

theorem proc_Table_Resume_1.vc (p : Int) (p1 : Bool) (p2 : Int) (p3 : Int) (w : World) (R : Value → World → Prop) : fnVC Try.prog proc_Table_Resume_1.A Try.f94 [.agg #[.int .i64 p, .bool p1, .int .i64 p2, .int .i64 p3]] w R = proc_Table_Resume_1.F p p1 p2 p3 w R := by kernel_rfl
theorem proc_Table_Resume_1.calls (p : Int) (p1 : Bool) (p2 : Int) (p3 : Int) (w : World) (R : Value → World → Prop) (h : proc_Table_Resume_1.F p p1 p2 p3 w R) : Calls Try.prog 94 #[.agg #[.int .i64 p, .bool p1, .int .i64 p2, .int .i64 p3]] w (Ret R) :=
  calls_of_vc mixed Try.func94 (Eq.mpr (proc_Table_Resume_1.vc p p1 p2 p3 w R) h)

/-! ### (*purlin/proc.Table).Resume$2: function 95 -/
def proc_Table_Resume_2.A : Ann where
  sched := fun i => match i with
    | _ => none
  loop := fun i => match i with
    | _ => none

def proc_Table_Resume_2.F (pB : Nat) (pO : Nat) (w : World) (R : Value → World → Prop) : Prop :=
 storeC w pB (pO + 1) [.bool false] fun w1 =>
 R (.tuple #[]) w1

theorem proc_Table_Resume_2.vc (pB : Nat) (pO : Nat) (w : World) (R : Value → World → Prop) : fnVC Try.prog proc_Table_Resume_2.A Try.f95 [.pointer (some ⟨pB, pO, none⟩)] w R = proc_Table_Resume_2.F pB pO w R := by kernel_rfl
theorem proc_Table_Resume_2.calls (pB : Nat) (pO : Nat) (w : World) (R : Value → World → Prop) (h : proc_Table_Resume_2.F pB pO w R) : Calls Try.prog 95 #[.pointer (some ⟨pB, pO, none⟩)] w (Ret R) :=
  calls_of_vc mixed Try.func95 (Eq.mpr (proc_Table_Resume_2.vc pB pO w R) h)

/-! ### (*purlin/proc.Table).Raise: function 62 -/
def proc_Table_Raise.A : Ann where
  sched := fun i => match i with
    | _ => none
  loop := fun i => match i with
    | _ => none

def proc_Table_Raise.F (tB : Nat) (tO : Nat) (i : Int) (prio : Int) (w : World) (R : Value → World → Prop) : Prop :=
 newBlk w (.cells #[.int .i64 prio] 3 (0, 0)) fun b w1 =>
 ∃ t7 : Int, w1.cell? ⟨b, 0, none⟩ = some (.int .i64 t7) ∧
 br (decide (t7 < 0)) (
 br (decide (i < 0)) (
 R (.int .i64 170) w1) (
 ∃ t20A : Option Addr, ∃ t20N : Nat, ∃ t20C : Nat, w1.cell? ⟨tB, tO + 1, none⟩ = some (.slice t20A t20N t20C) ∧
 br (decide (i ≥ ((t20N : Nat) : Int))) (
 R (.int .i64 170) w1) (
 R (.int .i64 172) w1))) (
 ∃ t10 : Int, w1.cell? ⟨b, 0, none⟩ = some (.int .i64 t10) ∧
 br (decide (t10 > 63)) (
 br (decide (i < 0)) (
 R (.int .i64 170) w1) (
 ∃ t20A1 : Option Addr, ∃ t20N1 : Nat, ∃ t20C1 : Nat, w1.cell? ⟨tB, tO + 1, none⟩ = some (.slice t20A1 t20N1 t20C1) ∧
 br (decide (i ≥ ((t20N1 : Nat) : Int))) (
 R (.int .i64 170) w1) (
 R (.int .i64 172) w1))) (
 Calls Try.prog 69 #[.pointer (some ⟨tB, tO, none⟩), .int .i64 i, .func (.func 90) #[] #[], .int .i64 2, .func (.func 96) #[] #[.pointer (some ⟨b, 0, none⟩)]] w1 (fun e w3 => ∃ t27 : Int, e = .returned (.int .i64 t27) ∧
 R (.int .i64 t27) w3)))

theorem proc_Table_Raise.vc (tB : Nat) (tO : Nat) (i : Int) (prio : Int) (w : World) (R : Value → World → Prop) : fnVC Try.prog proc_Table_Raise.A Try.f62 [.pointer (some ⟨tB, tO, none⟩), .int .i64 i, .int .i64 prio] w R = proc_Table_Raise.F tB tO i prio w R := by kernel_rfl
theorem proc_Table_Raise.calls (tB : Nat) (tO : Nat) (i : Int) (prio : Int) (w : World) (R : Value → World → Prop) (h : proc_Table_Raise.F tB tO i prio w R) : Calls Try.prog 62 #[.pointer (some ⟨tB, tO, none⟩), .int .i64 i, .int .i64 prio] w (Ret R) :=
  calls_of_vc mixed Try.func62 (Eq.mpr (proc_Table_Raise.vc tB tO i prio w R) h)

/-! ### (*purlin/proc.Table).Raise$1: function 96 -/
def proc_Table_Raise_1.A : Ann where
  sched := fun i => match i with
    | _ => none
  loop := fun i => match i with
    | _ => none

def proc_Table_Raise_1.F (pB : Nat) (pO : Nat) (t1B : Nat) (t1O : Nat) (w : World) (R : Value → World → Prop) : Prop :=
 ∃ t4 : Int, w.cell? ⟨t1B, t1O, none⟩ = some (.int .i64 t4) ∧
 storeC w pB (pO + 2) [.int .i64 t4] fun w1 =>
 R (.tuple #[]) w1

theorem proc_Table_Raise_1.vc (pB : Nat) (pO : Nat) (t1B : Nat) (t1O : Nat) (w : World) (R : Value → World → Prop) : fnVC Try.prog proc_Table_Raise_1.A Try.f96 [.pointer (some ⟨pB, pO, none⟩), .pointer (some ⟨t1B, t1O, none⟩)] w R = proc_Table_Raise_1.F pB pO t1B t1O w R := by kernel_rfl
theorem proc_Table_Raise_1.calls (pB : Nat) (pO : Nat) (t1B : Nat) (t1O : Nat) (w : World) (R : Value → World → Prop) (h : proc_Table_Raise_1.F pB pO t1B t1O w R) : Calls Try.prog 96 #[.pointer (some ⟨pB, pO, none⟩), .pointer (some ⟨t1B, t1O, none⟩)] w (Ret R) :=
  calls_of_vc mixed Try.func96 (Eq.mpr (proc_Table_Raise_1.vc pB pO t1B t1O w R) h)

/-! ### (*purlin/proc.Table).Yield: function 33 -/
def proc_Table_Yield.A : Ann where
  sched := fun i => match i with
    | _ => none
  loop := fun i => match i with
    | _ => none

def proc_Table_Yield.F (tB : Nat) (tO : Nat) (i : Int) (w : World) (R : Value → World → Prop) : Prop :=
 Calls Try.prog 69 #[.pointer (some ⟨tB, tO, none⟩), .int .i64 i, .func (.func 64) #[] #[], .int .i64 2, .func (.func 70) #[] #[]] w (fun e w1 => ∃ t7 : Int, e = .returned (.int .i64 t7) ∧
 R (.int .i64 t7) w1)

theorem proc_Table_Yield.vc (tB : Nat) (tO : Nat) (i : Int) (w : World) (R : Value → World → Prop) : fnVC Try.prog proc_Table_Yield.A Try.f33 [.pointer (some ⟨tB, tO, none⟩), .int .i64 i] w R = proc_Table_Yield.F tB tO i w R := by kernel_rfl
theorem proc_Table_Yield.calls (tB : Nat) (tO : Nat) (i : Int) (w : World) (R : Value → World → Prop) (h : proc_Table_Yield.F tB tO i w R) : Calls Try.prog 33 #[.pointer (some ⟨tB, tO, none⟩), .int .i64 i] w (Ret R) :=
  calls_of_vc mixed Try.func33 (Eq.mpr (proc_Table_Yield.vc tB tO i w R) h)

/-! ### (*purlin/proc.Table).Yield$1: function 70 -/
def proc_Table_Yield_1.A : Ann where
  sched := fun i => match i with
    | _ => none
  loop := fun i => match i with
    | _ => none

def proc_Table_Yield_1.F (t0B : Nat) (t0O : Nat) (w : World) (R : Value → World → Prop) : Prop :=
 R (.tuple #[]) w

theorem proc_Table_Yield_1.vc (t0B : Nat) (t0O : Nat) (w : World) (R : Value → World → Prop) : fnVC Try.prog proc_Table_Yield_1.A Try.f70 [.pointer (some ⟨t0B, t0O, none⟩)] w R = proc_Table_Yield_1.F t0B t0O w R := by kernel_rfl
theorem proc_Table_Yield_1.calls (t0B : Nat) (t0O : Nat) (w : World) (R : Value → World → Prop) (h : proc_Table_Yield_1.F t0B t0O w R) : Calls Try.prog 70 #[.pointer (some ⟨t0B, t0O, none⟩)] w (Ret R) :=
  calls_of_vc mixed Try.func70 (Eq.mpr (proc_Table_Yield_1.vc t0B t0O w R) h)

/-! ### (*purlin/proc.Table).State: function 32 -/
def proc_Table_State.A : Ann where
  sched := fun i => match i with
    | 3 => some (none, .still 0 false 16776976 <| .still 1 false 16776977 <| .still 2 false 16776979 <| .still 3 false 16776983 <| .still 4 false 16776975 <| .still 5 false 16776991 <| .still 6 false 16777023 <| .still 7 false 16777087 <| .still 8 false 33493247 <| .still 9 false 33493503 <| .still 10 false 33494015 <| .still 11 false 33495039 <| .still 12 false 33492991 <| .still 13 false 33497087 <| .still 14 false 33505279 <| .still 15 false 33521663 <| .still 16 false 51445759 <| .still 17 false 51511295 <| .still 18 false 51642367 <| .still 19 false 51904511 <| .still 20 false 51380223 <| .still 21 false 52428799 <| .still 22 false 54525951 <| .still 23 false 58720255 <| .still 24 false 16777215 <| .still 25 false 33554431 <| .still 26 false 67108863 <| .done)
    | _ => none
  loop := fun i => match i with
    | _ => none

def proc_Table_State.F (tB : Nat) (tO : Nat) (i : Int) (w : World) (R : Value → World → Prop) : Prop :=
 br (decide (i < 0)) (
 R (.tuple #[.int .i64 0, .bool false, .int .i64 0]) w) (
 ∃ t14A : Option Addr, ∃ t14N : Nat, ∃ t14C : Nat, w.cell? ⟨tB, tO + 1, none⟩ = some (.slice t14A t14N t14C) ∧
 br (decide (i ≥ ((t14N : Nat) : Int))) (
 R (.tuple #[.int .i64 0, .bool false, .int .i64 0]) w) (
 drawC w fun w1 =>
 ∃ t21A : Option Addr, ∃ t21N : Nat, ∃ t21C : Nat, w1.cell? ⟨tB, tO + 1, none⟩ = some (.slice t21A t21N t21C) ∧
 0 ≤ (i : Int) ∧ i < ((t21N : Nat) : Int) ∧ okP t21A (
 ∃ t25 : Int, w1.cell? ⟨(pb t21A), po t21A + i.toNat * 4, none⟩ = some (.int .i64 t25) ∧
 ∃ t29A : Option Addr, ∃ t29N : Nat, ∃ t29C : Nat, w1.cell? ⟨tB, tO + 1, none⟩ = some (.slice t29A t29N t29C) ∧
 0 ≤ (i : Int) ∧ i < ((t29N : Nat) : Int) ∧ okP t29A (
 ∃ t33 : Bool, w1.cell? ⟨(pb t29A), po t29A + i.toNat * 4 + 1, none⟩ = some (.bool t33) ∧
 ∃ t37A : Option Addr, ∃ t37N : Nat, ∃ t37C : Nat, w1.cell? ⟨tB, tO + 1, none⟩ = some (.slice t37A t37N t37C) ∧
 0 ≤ (i : Int) ∧ i < ((t37N : Nat) : Int) ∧ okP t37A (
 ∃ t41 : Int, w1.cell? ⟨(pb t37A), po t37A + i.toNat * 4 + 2, none⟩ = some (.int .i64 t41) ∧
 R (.tuple #[.int .i64 t25, .bool t33, .int .i64 t41]) w1)))))

theorem proc_Table_State.vc (tB : Nat) (tO : Nat) (i : Int) (w : World) (R : Value → World → Prop) : fnVC Try.prog proc_Table_State.A Try.f32 [.pointer (some ⟨tB, tO, none⟩), .int .i64 i] w R = proc_Table_State.F tB tO i w R := by kernel_rfl
theorem proc_Table_State.calls (tB : Nat) (tO : Nat) (i : Int) (w : World) (R : Value → World → Prop) (h : proc_Table_State.F tB tO i w R) : Calls Try.prog 32 #[.pointer (some ⟨tB, tO, none⟩), .int .i64 i] w (Ret R) :=
  calls_of_vc mixed Try.func32 (Eq.mpr (proc_Table_State.vc tB tO i w R) h)

end Go.Proofs.Ytecacohkkdhphaa
