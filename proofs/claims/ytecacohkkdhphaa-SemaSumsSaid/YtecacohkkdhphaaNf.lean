/- Printed by vcgen.py: of each function of this text its weakest precondition as a formula, and that it is one. Conditions: none. -/
import Derived.Test.YtecacohkkdhphaaVcCode
import Derived.Test.YtecacohkkdhphaaVcMem
import Derived.Test.YtecacohkkdhphaaChecked
namespace Go.Proofs.Ytecacohkkdhphaa
open Go.Vc
set_option linter.unusedVariables false
set_option maxRecDepth 100000

/-! ### purlin/line.New: function 53 -/
def line_New.A : Ann where
  sched := fun i => match i with
    | _ => none
  loop := fun i => match i with
    | _ => none

def line_New.F (w : World) (R : Value → World → Prop) : Prop :=
 newBlk w (.map #[] 0) fun b w1 =>
 newBlk w1 (.cells #[.map (some b), .int .i64 0, .int .i64 0] 143 (0, 0)) fun b1 w2 =>
 R (.pointer (some ⟨b1, 0, none⟩)) w2

theorem line_New.vc (w : World) (R : Value → World → Prop) : fnVC Try.prog line_New.A Try.f53 [] w R = line_New.F w R := by kernel_rfl
theorem line_New.calls (w : World) (R : Value → World → Prop) (h : line_New.F w R) : Calls Try.prog 53 #[] w (Ret R) :=
  calls_of_vc mixed Try.func53 (Eq.mpr (line_New.vc w R) h)

/-! ### (*purlin/line.Line).Put: function 72 -/
def line_Line_Put.A : Ann where
  sched := fun i => match i with
    | 11 => some (none, .still 0 false 8176 <| .still 1 false 8177 <| .still 2 false 8179 <| .still 3 false 8183 <| .still 4 false 8175 <| .still 5 false 4063 <| .still 6 false 4031 <| .still 7 false 3967 <| .still 8 false 255 <| .still 9 false 511 <| .still 10 false 1023 <| .still 11 false 2047 <| .still 12 false 4095 <| .eff 13 <| .done)
    | _ => none
  loop := fun i => match i with
    | _ => none

def line_Line_Put.K0 (lB : Nat) (lO : Nat) (id : Int) (prio : Int) (until1 : Int) (R : Value → World → Prop) (t174 : Bool) (w2 : World) : Prop :=
 br t174 (
 R (.int .i64 141) w2) (
 ∃ t54 : Int, w2.cell? ⟨lB, lO + 1, none⟩ = some (.int .i64 t54) ∧
 storeC w2 lB (lO + 1) [.int .i64 (IntKind.wrap .i64 (t54 + 1))] fun w3 =>
 drawC w3 fun w4 =>
 ∃ t61M : Option Nat, w4.cell? ⟨lB, lO, none⟩ = some (.map t61M) ∧
 ∃ t69 : Int, w4.cell? ⟨lB, lO + 1, none⟩ = some (.int .i64 t69) ∧
 ∃ w5 : World, (Instr.mapUpdate 141 (.map t61M) (.int .i64 id) (.agg #[.int .i64 id, .int .i64 prio, .int .i64 until1, .int .i64 t69])).run Try.prog w4 = .ok () w5 ∧
 R (.int .i64 0) w5)

def line_Line_Put.F (lB : Nat) (lO : Nat) (id : Int) (prio : Int) (until1 : Int) (w : World) (R : Value → World → Prop) : Prop :=
 ∃ t15M : Option Nat, w.cell? ⟨lB, lO, none⟩ = some (.map t15M) ∧
 ∃ t17 : Int, ∃ t171 : Int, ∃ t172 : Int, ∃ t173 : Int, ∃ t174 : Bool, (Instr.lookup 141 (.map t15M) (.int .i64 id) true).run Try.prog w = .ok (.tuple #[.agg #[.int .i64 t17, .int .i64 t171, .int .i64 t172, .int .i64 t173], .bool t174]) w ∧
 newBlk w (.cells #[.int .i64 0, .int .i64 0, .int .i64 0, .int .i64 0] 139 (0, 0)) fun b w1 =>
 storeC w1 b 0 [.int .i64 t17, .int .i64 t171, .int .i64 t172, .int .i64 t173] fun w2 =>
 br (decide (id < 0)) (
 R (.int .i64 140) w2) (
 br (decide (id > 65535)) (
 R (.int .i64 140) w2) (
 br (decide (prio < 0)) (
 R (.int .i64 143) w2) (
 br (decide (prio > 63)) (
 R (.int .i64 143) w2) (
 br (until1 != (-1)) (
 ∃ t42 : Int, w2.cell? ⟨lB, lO + 2, none⟩ = some (.int .i64 t42) ∧
 br (decide (until1 ≤ t42)) (
 R (.int .i64 144) w2) (
 br (decide (until1 > 1099511627776)) (
 R (.int .i64 144) w2) (
 line_Line_Put.K0 lB lO id prio until1 R t174 w2))) (
 line_Line_Put.K0 lB lO id prio until1 R t174 w2)))))

theorem line_Line_Put.vc (lB : Nat) (lO : Nat) (id : Int) (prio : Int) (until1 : Int) (w : World) (R : Value → World → Prop) : fnVC Try.prog line_Line_Put.A Try.f72 [.pointer (some ⟨lB, lO, none⟩), .int .i64 id, .int .i64 prio, .int .i64 until1] w R = line_Line_Put.F lB lO id prio until1 w R := by kernel_rfl
theorem line_Line_Put.calls (lB : Nat) (lO : Nat) (id : Int) (prio : Int) (until1 : Int) (w : World) (R : Value → World → Prop) (h : line_Line_Put.F lB lO id prio until1 w R) : Calls Try.prog 72 #[.pointer (some ⟨lB, lO, none⟩), .int .i64 id, .int .i64 prio, .int .i64 until1] w (Ret R) :=
  calls_of_vc mixed Try.func72 (Eq.mpr (line_Line_Put.vc lB lO id prio until1 w R) h)

/-! ### purlin/line.order: function 82 -/
def line_order.A : Ann where
  sched := fun i => match i with
    | 1 => some ((some 3584), .still 0 false 492 <| .still 1 false 493 <| .still 2 false 483 <| .still 3 false 487 <| .still 5 true 415 <| .still 7 true 127 <| .still 6 true 447 <| .still 8 true 255 <| .eff 4 <| .eff 9 <| .eff 10 <| .eff 11 <| .still 12 false 4095 <| .done)
    | _ => none
  loop := fun i => match i with
    | _ => none

def line_order.F (a : Int) (a1 : Int) (a2 : Int) (a3 : Int) (b : Int) (b1 : Int) (b2 : Int) (b3 : Int) (w : World) (R : Value → World → Prop) : Prop :=
 newBlk w (.cells #[.int .i64 a, .int .i64 a1, .int .i64 a2, .int .i64 a3] 139 (0, 0)) fun b4 w1 =>
 newBlk w1 (.cells #[.int .i64 b, .int .i64 b1, .int .i64 b2, .int .i64 b3] 139 (0, 0)) fun b5 w2 =>
 ∃ S : World → Prop, S w2.drew ∧ drawC w2 fun w3 =>
 ∃ t6 : Int, w3.cell? ⟨b5, 1, none⟩ = some (.int .i64 t6) ∧
 ∃ t8 : Int, w3.cell? ⟨b4, 1, none⟩ = some (.int .i64 t8) ∧
 ∃ t11 : Int, (∀ w9 : World, S w9 → w9.cell? ⟨b4, 3, none⟩ = some (.int .i64 t11)) ∧
 ∃ t13 : Int, (∀ w9 : World, S w9 → w9.cell? ⟨b5, 3, none⟩ = some (.int .i64 t13)) ∧
 Calls Try.prog 68 #[.int .i64 t6, .int .i64 t8] w3 (fun e w4 => ∃ t9 : Int, e = .returned (.int .i64 t9) ∧
 S w4 ∧ Calls Try.prog 68 #[.int .i64 t11, .int .i64 t13] w4 (fun e w5 => ∃ t14 : Int, e = .returned (.int .i64 t14) ∧
 newBlk w5 (.cells #[.int .i64 t9, .int .i64 t14] 3 (0, 0)) fun b6 w6 =>
 Calls Try.prog 67 #[.slice (some ⟨b6, 0, none⟩) 2 2] w6 (fun e w7 => ∃ t16 : Int, e = .returned (.int .i64 t16) ∧
 R (.int .i64 t16) w7)))

theorem line_order.vc (a : Int) (a1 : Int) (a2 : Int) (a3 : Int) (b : Int) (b1 : Int) (b2 : Int) (b3 : Int) (w : World) (R : Value → World → Prop) : fnVC Try.prog line_order.A Try.f82 [.agg #[.int .i64 a, .int .i64 a1, .int .i64 a2, .int .i64 a3], .agg #[.int .i64 b, .int .i64 b1, .int .i64 b2, .int .i64 b3]] w R = line_order.F a a1 a2 a3 b b1 b2 b3 w R := by kernel_rfl
theorem line_order.calls (a : Int) (a1 : Int) (a2 : Int) (a3 : Int) (b : Int) (b1 : Int) (b2 : Int) (b3 : Int) (w : World) (R : Value → World → Prop) (h : line_order.F a a1 a2 a3 b b1 b2 b3 w R) : Calls Try.prog 82 #[.agg #[.int .i64 a, .int .i64 a1, .int .i64 a2, .int .i64 a3], .agg #[.int .i64 b, .int .i64 b1, .int .i64 b2, .int .i64 b3]] w (Ret R) :=
  calls_of_vc mixed Try.func82 (Eq.mpr (line_order.vc a a1 a2 a3 b b1 b2 b3 w R) h)

/-! ### (*purlin/line.Line).sorted: function 79 -/
def line_Line_sorted.A : Ann where
  sched := fun i => match i with
    | _ => none
  loop := fun i => match i with
    | 3 => some [(7, some (.one (.slice))), (9, none), (18, none), (19, none), (20, none), (21, none), (22, none), (23, none), (24, none), (25, none), (26, none), (27, none), (28, none)]
    | 10 => some [(10, some (.one (.slice))), (12, none), (34, some (.one (.int .i64))), (35, none), (36, none), (37, none), (38, none), (39, none), (40, none), (41, none), (42, none), (43, none)]
    | _ => none

def line_Line_sorted.L1 (R : Value → World → Prop) (someA : Option Addr) (someN : Nat) (idsA : Option Addr) (idsN : Nat) (idsC : Nat) (t34 : Int) (w5 : World) (Nx1 : Option Addr → Nat → Nat → Int → World → Prop) : Prop :=
 br (decide (t34 < ((someN : Nat) : Int))) (
 0 ≤ (t34 : Int) ∧ t34 < ((someN : Nat) : Int) ∧ okP someA (
 ∃ t37 : Int, w5.cell? ⟨(pb someA), po someA + t34.toNat * 4, none⟩ = some (.int .i64 t37) ∧ ∃ t371 : Int, w5.cell? ⟨(pb someA), po someA + t34.toNat * 4 + 1, none⟩ = some (.int .i64 t371) ∧ ∃ t372 : Int, w5.cell? ⟨(pb someA), po someA + t34.toNat * 4 + 2, none⟩ = some (.int .i64 t372) ∧ ∃ t373 : Int, w5.cell? ⟨(pb someA), po someA + t34.toNat * 4 + 3, none⟩ = some (.int .i64 t373) ∧ 
 newBlk w5 (.cells #[.int .i64 0, .int .i64 0, .int .i64 0, .int .i64 0] 139 (0, 0)) fun b w6 =>
 storeC w6 b 0 [.int .i64 t37, .int .i64 t371, .int .i64 t372, .int .i64 t373] fun w7 =>
 ∃ t40 : Int, w7.cell? ⟨b, 0, none⟩ = some (.int .i64 t40) ∧
 newBlk w7 (.cells #[.int .i64 t40] 3 (0, 0)) fun b1 w8 =>
 ∃ t42A : Option Addr, ∃ t42N : Nat, ∃ t42C : Nat, ∃ w9 : World, (Builtin.append_ #[29, 29] 29 #[.slice idsA idsN idsC, .slice (some ⟨b1, 0, none⟩) 1 1]).run Try.prog w8 = .ok (.slice t42A t42N t42C) w9 ∧
 Nx1 t42A t42N t42C (IntKind.wrap .i64 (t34 + 1)) w9)) (
 R (.slice idsA idsN idsC) w5)

def line_Line_sorted.L0 (isV : Value) (byV : Value) (R : Value → World → Prop) (t17P : Option Addr) (dead : Nat → Value) (someA : Option Addr) (someN : Nat) (someC : Nat) (w2 : World) (Nx0 : Option Addr → Nat → Nat → World → Prop) : Prop :=
 (∃ w3 : World, (Instr.next (.pointer t17P) false 0).run Try.prog w2 = .ok (.tuple #[.bool false]) w3 ∧
 Calls Try.prog 101 #[.slice someA someN someC, byV] w3 (fun e w4 => e = .returned (.tuple #[]) ∧
 ∃ I : Nat → Option Addr → Nat → Nat → Int → World → Prop, (∃ n, I n none 0 0 0 w4) ∧ ∀ (n9 : Nat) (dead : Nat → Value) (w5 : World) (idsA : Option Addr) (idsN : Nat) (idsC : Nat) (t34 : Int), I n9 idsA idsN idsC t34 w5 →
 line_Line_sorted.L1 R someA someN idsA idsN idsC t34 w5 (fun x0 x1 x2 x3 w9 => ∃ m, m < n9 ∧ I m x0 x1 x2 x3 w9))) ∨
 (∃ k : Value, ∃ v : Value, ∃ w10 : World, (Instr.next (.pointer t17P) false 0).run Try.prog w2 = .ok (.tuple #[.bool true, k, v]) w10 ∧
 ∃ keyV : Value, ∃ elem : Int, ∃ elem1 : Int, ∃ elem2 : Int, ∃ elem3 : Int, (Instr.entry (.pointer t17P)).run Try.prog w10 = .ok (.tuple #[keyV, .agg #[.int .i64 elem, .int .i64 elem1, .int .i64 elem2, .int .i64 elem3]]) w10 ∧
 newBlk w10 (.cells #[.int .i64 0, .int .i64 0, .int .i64 0, .int .i64 0] 139 (0, 0)) fun b2 w11 =>
 storeC w11 b2 0 [.int .i64 elem, .int .i64 elem1, .int .i64 elem2, .int .i64 elem3] fun w12 =>
 ∃ t23 : Int, w12.cell? ⟨b2, 0, none⟩ = some (.int .i64 t23) ∧ ∃ t231 : Int, w12.cell? ⟨b2, 1, none⟩ = some (.int .i64 t231) ∧ ∃ t232 : Int, w12.cell? ⟨b2, 2, none⟩ = some (.int .i64 t232) ∧ ∃ t233 : Int, w12.cell? ⟨b2, 3, none⟩ = some (.int .i64 t233) ∧ 
 ∃ (f : FuncId) (args : Array Value) (w16 : World), (callV (isV) #[.agg #[.int .i64 t23, .int .i64 t231, .int .i64 t232, .int .i64 t233]]).run Try.prog w12 = .ok (.enter f args) w16 ∧
 Calls Try.prog f args w16 (fun e w13 => ∃ t24 : Bool, e = .returned (.bool t24) ∧
 br t24 (
 ∃ t26 : Int, w13.cell? ⟨b2, 0, none⟩ = some (.int .i64 t26) ∧ ∃ t261 : Int, w13.cell? ⟨b2, 1, none⟩ = some (.int .i64 t261) ∧ ∃ t262 : Int, w13.cell? ⟨b2, 2, none⟩ = some (.int .i64 t262) ∧ ∃ t263 : Int, w13.cell? ⟨b2, 3, none⟩ = some (.int .i64 t263) ∧ 
 newBlk w13 (.cells #[.int .i64 t26, .int .i64 t261, .int .i64 t262, .int .i64 t263] 139 (0, 0)) fun b3 w14 =>
 ∃ t28A : Option Addr, ∃ t28N : Nat, ∃ t28C : Nat, ∃ w15 : World, (Builtin.append_ #[152, 152] 152 #[.slice someA someN someC, .slice (some ⟨b3, 0, none⟩) 1 1]).run Try.prog w14 = .ok (.slice t28A t28N t28C) w15 ∧
 Nx0 t28A t28N t28C w15) (
 Nx0 someA someN someC w13)))

def line_Line_sorted.F (lB : Nat) (lO : Nat) (isV : Value) (byV : Value) (w : World) (R : Value → World → Prop) : Prop :=
 ∃ t16M : Option Nat, w.cell? ⟨lB, lO, none⟩ = some (.map t16M) ∧
 ∃ t17P : Option Addr, ∃ w1 : World, (Instr.range 141 (.map t16M)).run Try.prog w = .ok (.pointer t17P) w1 ∧
 ∃ I : Nat → Option Addr → Nat → Nat → World → Prop, (∃ n, I n none 0 0 w1) ∧ ∀ (n9 : Nat) (dead : Nat → Value) (w2 : World) (someA : Option Addr) (someN : Nat) (someC : Nat), I n9 someA someN someC w2 →
 line_Line_sorted.L0 isV byV R t17P dead someA someN someC w2 (fun x0 x1 x2 w9 => ∃ m, m < n9 ∧ I m x0 x1 x2 w9)

theorem line_Line_sorted.vc (lB : Nat) (lO : Nat) (isV : Value) (byV : Value) (w : World) (R : Value → World → Prop) : fnVC Try.prog line_Line_sorted.A Try.f79 [.pointer (some ⟨lB, lO, none⟩), isV, byV] w R = line_Line_sorted.F lB lO isV byV w R := by kernel_rfl
theorem line_Line_sorted.calls (lB : Nat) (lO : Nat) (isV : Value) (byV : Value) (w : World) (R : Value → World → Prop) (h : line_Line_sorted.F lB lO isV byV w R) : Calls Try.prog 79 #[.pointer (some ⟨lB, lO, none⟩), isV, byV] w (Ret R) :=
  calls_of_vc mixed Try.func79 (Eq.mpr (line_Line_sorted.vc lB lO isV byV w R) h)

/-! ### (*purlin/line.Line).List: function 52 -/
def line_Line_List.A : Ann where
  sched := fun i => match i with
    | _ => none
  loop := fun i => match i with
    | _ => none

def line_Line_List.F (lB : Nat) (lO : Nat) (w : World) (R : Value → World → Prop) : Prop :=
 Calls Try.prog 79 #[.pointer (some ⟨lB, lO, none⟩), .func (.func 83) #[] #[], .func (.func 82) #[] #[]] w (fun e w1 => ∃ t4A : Option Addr, ∃ t4N : Nat, ∃ t4C : Nat, e = .returned (.slice t4A t4N t4C) ∧
 R (.slice t4A t4N t4C) w1)

theorem line_Line_List.vc (lB : Nat) (lO : Nat) (w : World) (R : Value → World → Prop) : fnVC Try.prog line_Line_List.A Try.f52 [.pointer (some ⟨lB, lO, none⟩)] w R = line_Line_List.F lB lO w R := by kernel_rfl
theorem line_Line_List.calls (lB : Nat) (lO : Nat) (w : World) (R : Value → World → Prop) (h : line_Line_List.F lB lO w R) : Calls Try.prog 52 #[.pointer (some ⟨lB, lO, none⟩)] w (Ret R) :=
  calls_of_vc mixed Try.func52 (Eq.mpr (line_Line_List.vc lB lO w R) h)

/-! ### (*purlin/line.Line).List$1: function 83 -/
def line_Line_List_1.A : Ann where
  sched := fun i => match i with
    | _ => none
  loop := fun i => match i with
    | _ => none

def line_Line_List_1.F (t0 : Int) (t01 : Int) (t02 : Int) (t03 : Int) (w : World) (R : Value → World → Prop) : Prop :=
 newBlk w (.cells #[.int .i64 t0, .int .i64 t01, .int .i64 t02, .int .i64 t03] 139 (0, 0)) fun b w1 =>
 R (.bool true) w1

theorem line_Line_List_1.vc (t0 : Int) (t01 : Int) (t02 : Int) (t03 : Int) (w : World) (R : Value → World → Prop) : fnVC Try.prog line_Line_List_1.A Try.f83 [.agg #[.int .i64 t0, .int .i64 t01, .int .i64 t02, .int .i64 t03]] w R = line_Line_List_1.F t0 t01 t02 t03 w R := by kernel_rfl
theorem line_Line_List_1.calls (t0 : Int) (t01 : Int) (t02 : Int) (t03 : Int) (w : World) (R : Value → World → Prop) (h : line_Line_List_1.F t0 t01 t02 t03 w R) : Calls Try.prog 83 #[.agg #[.int .i64 t0, .int .i64 t01, .int .i64 t02, .int .i64 t03]] w (Ret R) :=
  calls_of_vc mixed Try.func83 (Eq.mpr (line_Line_List_1.vc t0 t01 t02 t03 w R) h)

/-! ### (*purlin/line.Line).First: function 100 -/
def line_Line_First.A : Ann where
  sched := fun i => match i with
    | _ => none
  loop := fun i => match i with
    | _ => none

def line_Line_First.F (lB : Nat) (lO : Nat) (w : World) (R : Value → World → Prop) : Prop :=
 Calls Try.prog 52 #[.pointer (some ⟨lB, lO, none⟩)] w (fun e w1 => ∃ t6A : Option Addr, ∃ t6N : Nat, ∃ t6C : Nat, e = .returned (.slice t6A t6N t6C) ∧
 br (((t6N : Nat) : Int) == 0) (
 R (.tuple #[.int .i64 0, .bool false]) w1) (
 0 ≤ (0 : Int) ∧ 0 < ((t6N : Nat) : Int) ∧ okP t6A (
 ∃ t12 : Int, w1.cell? ⟨(pb t6A), po t6A, none⟩ = some (.int .i64 t12) ∧
 R (.tuple #[.int .i64 t12, .bool true]) w1)))

theorem line_Line_First.vc (lB : Nat) (lO : Nat) (w : World) (R : Value → World → Prop) : fnVC Try.prog line_Line_First.A Try.f100 [.pointer (some ⟨lB, lO, none⟩)] w R = line_Line_First.F lB lO w R := by kernel_rfl
theorem line_Line_First.calls (lB : Nat) (lO : Nat) (w : World) (R : Value → World → Prop) (h : line_Line_First.F lB lO w R) : Calls Try.prog 100 #[.pointer (some ⟨lB, lO, none⟩)] w (Ret R) :=
  calls_of_vc mixed Try.func100 (Eq.mpr (line_Line_First.vc lB lO w R) h)

/-! ### (*purlin/line.Line).Take: function 73 -/
def line_Line_Take.A : Ann where
  sched := fun i => match i with
    | _ => none
  loop := fun i => match i with
    | _ => none

def line_Line_Take.F (lB : Nat) (lO : Nat) (w : World) (R : Value → World → Prop) : Prop :=
 Calls Try.prog 100 #[.pointer (some ⟨lB, lO, none⟩)] w (fun e w1 => ∃ t8 : Int, ∃ t81 : Bool, e = .returned (.tuple #[.int .i64 t8, .bool t81]) ∧
 br t81 (
 ∃ t15M : Option Nat, w1.cell? ⟨lB, lO, none⟩ = some (.map t15M) ∧
 ∃ w2 : World, (Builtin.delete_ #[141, 3] 0 #[.map t15M, .int .i64 t8]).run Try.prog w1 = .ok (.tuple #[]) w2 ∧
 R (.tuple #[.int .i64 t8, .bool t81]) w2) (
 R (.tuple #[.int .i64 t8, .bool t81]) w1))

theorem line_Line_Take.vc (lB : Nat) (lO : Nat) (w : World) (R : Value → World → Prop) : fnVC Try.prog line_Line_Take.A Try.f73 [.pointer (some ⟨lB, lO, none⟩)] w R = line_Line_Take.F lB lO w R := by kernel_rfl
theorem line_Line_Take.calls (lB : Nat) (lO : Nat) (w : World) (R : Value → World → Prop) (h : line_Line_Take.F lB lO w R) : Calls Try.prog 73 #[.pointer (some ⟨lB, lO, none⟩)] w (Ret R) :=
  calls_of_vc mixed Try.func73 (Eq.mpr (line_Line_Take.vc lB lO w R) h)

/-! ### (*purlin/line.Line).Drop: function 49 -/
def line_Line_Drop.A : Ann where
  sched := fun i => match i with
    | _ => none
  loop := fun i => match i with
    | _ => none

def line_Line_Drop.F (lB : Nat) (lO : Nat) (id : Int) (w : World) (R : Value → World → Prop) : Prop :=
 ∃ t11M : Option Nat, w.cell? ⟨lB, lO, none⟩ = some (.map t11M) ∧
 ∃ t13 : Int, ∃ t131 : Int, ∃ t132 : Int, ∃ t133 : Int, ∃ t134 : Bool, (Instr.lookup 141 (.map t11M) (.int .i64 id) true).run Try.prog w = .ok (.tuple #[.agg #[.int .i64 t13, .int .i64 t131, .int .i64 t132, .int .i64 t133], .bool t134]) w ∧
 newBlk w (.cells #[.int .i64 0, .int .i64 0, .int .i64 0, .int .i64 0] 139 (0, 0)) fun b w1 =>
 storeC w1 b 0 [.int .i64 t13, .int .i64 t131, .int .i64 t132, .int .i64 t133] fun w2 =>
 br (!t134) (
 R (.int .i64 142) w2) (
 ∃ t21M : Option Nat, w2.cell? ⟨lB, lO, none⟩ = some (.map t21M) ∧
 ∃ w3 : World, (Builtin.delete_ #[141, 3] 0 #[.map t21M, .int .i64 id]).run Try.prog w2 = .ok (.tuple #[]) w3 ∧
 R (.int .i64 0) w3)

theorem line_Line_Drop.vc (lB : Nat) (lO : Nat) (id : Int) (w : World) (R : Value → World → Prop) : fnVC Try.prog line_Line_Drop.A Try.f49 [.pointer (some ⟨lB, lO, none⟩), .int .i64 id] w R = line_Line_Drop.F lB lO id w R := by kernel_rfl
theorem line_Line_Drop.calls (lB : Nat) (lO : Nat) (id : Int) (w : World) (R : Value → World → Prop) (h : line_Line_Drop.F lB lO id w R) : Calls Try.prog 49 #[.pointer (some ⟨lB, lO, none⟩), .int .i64 id] w (Ret R) :=
  calls_of_vc mixed Try.func49 (Eq.mpr (line_Line_Drop.vc lB lO id w R) h)

/-! ### (*purlin/line.Line).Expire: function 50 -/
def line_Line_Expire.A : Ann where
  sched := fun i => match i with
    | 1 => some (none, .still 0 false 30 <| .still 1 false 1 <| .still 2 false 3 <| .still 3 false 7 <| .still 4 false 15 <| .still 5 false 31 <| .still 6 false 63 <| .still 7 false 127 <| .still 8 false 255 <| .still 9 false 511 <| .done)
    | _ => none
  loop := fun i => match i with
    | 6 => some [(8, none), (28, some (.one (.int .i64))), (29, none), (30, none), (31, none), (32, none), (33, none), (34, none), (35, none), (36, none), (37, none)]
    | _ => none

def line_Line_Expire.L0 (lB : Nat) (lO : Nat) (R : Value → World → Prop) (t25A : Option Addr) (t25N : Nat) (t25C : Nat) (t28 : Int) (w5 : World) (Nx0 : Int → World → Prop) : Prop :=
 br (decide (t28 < ((t25N : Nat) : Int))) (
 0 ≤ (t28 : Int) ∧ t28 < ((t25N : Nat) : Int) ∧ okP t25A (
 ∃ t31 : Int, w5.cell? ⟨(pb t25A), po t25A + t28.toNat * 1, none⟩ = some (.int .i64 t31) ∧
 ∃ t35M : Option Nat, w5.cell? ⟨lB, lO, none⟩ = some (.map t35M) ∧
 ∃ w6 : World, (Builtin.delete_ #[141, 3] 0 #[.map t35M, .int .i64 t31]).run Try.prog w5 = .ok (.tuple #[]) w6 ∧
 Nx0 (IntKind.wrap .i64 (t28 + 1)) w6)) (
 R (.tuple #[.slice t25A t25N t25C, .int .i64 0]) w5)

def line_Line_Expire.F (lB : Nat) (lO : Nat) (now : Int) (w : World) (R : Value → World → Prop) : Prop :=
 newBlk w (.cells #[.int .i64 now] 3 (0, 0)) fun b w1 =>
 drawC w1 fun w2 =>
 ∃ t9 : Int, w2.cell? ⟨b, 0, none⟩ = some (.int .i64 t9) ∧
 ∃ t13 : Int, w2.cell? ⟨lB, lO + 2, none⟩ = some (.int .i64 t13) ∧
 br (decide (t9 < t13)) (
 R (.tuple #[.slice none 0 0, .int .i64 144]) w2) (
 ∃ t16 : Int, w2.cell? ⟨b, 0, none⟩ = some (.int .i64 t16) ∧
 br (decide (t16 > 1099511627776)) (
 R (.tuple #[.slice none 0 0, .int .i64 144]) w2) (
 ∃ t20 : Int, w2.cell? ⟨b, 0, none⟩ = some (.int .i64 t20) ∧
 storeC w2 lB (lO + 2) [.int .i64 t20] fun w3 =>
 Calls Try.prog 79 #[.pointer (some ⟨lB, lO, none⟩), .func (.func 80) #[] #[.pointer (some ⟨b, 0, none⟩)], .func (.func 81) #[] #[]] w3 (fun e w4 => ∃ t25A : Option Addr, ∃ t25N : Nat, ∃ t25C : Nat, e = .returned (.slice t25A t25N t25C) ∧
 ∃ I : Nat → Int → World → Prop, (∃ n, I n 0 w4) ∧ ∀ (n9 : Nat) (dead : Nat → Value) (w5 : World) (t28 : Int), I n9 t28 w5 →
 line_Line_Expire.L0 lB lO R t25A t25N t25C t28 w5 (fun x0 w9 => ∃ m, m < n9 ∧ I m x0 w9))))

theorem line_Line_Expire.vc (lB : Nat) (lO : Nat) (now : Int) (w : World) (R : Value → World → Prop) : fnVC Try.prog line_Line_Expire.A Try.f50 [.pointer (some ⟨lB, lO, none⟩), .int .i64 now] w R = line_Line_Expire.F lB lO now w R := by kernel_rfl
theorem line_Line_Expire.calls (lB : Nat) (lO : Nat) (now : Int) (w : World) (R : Value → World → Prop) (h : line_Line_Expire.F lB lO now w R) : Calls Try.prog 50 #[.pointer (some ⟨lB, lO, none⟩), .int .i64 now] w (Ret R) :=
  calls_of_vc mixed Try.func50 (Eq.mpr (line_Line_Expire.vc lB lO now w R) h)

/-! ### (*purlin/line.Line).Expire$1: function 80 -/
def line_Line_Expire_1.A : Ann where
  sched := fun i => match i with
    | _ => none
  loop := fun i => match i with
    | _ => none

def line_Line_Expire_1.F (w1 : Int) (w2 : Int) (w3 : Int) (w4 : Int) (t1B : Nat) (t1O : Nat) (w : World) (R : Value → World → Prop) : Prop :=
 newBlk w (.cells #[.int .i64 w1, .int .i64 w2, .int .i64 w3, .int .i64 w4] 139 (0, 0)) fun b w5 =>
 ∃ t5 : Int, w5.cell? ⟨b, 2, none⟩ = some (.int .i64 t5) ∧
 br (t5 != (-1)) (
 ∃ t9 : Int, w5.cell? ⟨b, 2, none⟩ = some (.int .i64 t9) ∧
 ∃ t10 : Int, w5.cell? ⟨t1B, t1O, none⟩ = some (.int .i64 t10) ∧
 R (.bool (decide (t9 ≤ t10))) w5) (
 R (.bool false) w5)

theorem line_Line_Expire_1.vc (w1 : Int) (w2 : Int) (w3 : Int) (w4 : Int) (t1B : Nat) (t1O : Nat) (w : World) (R : Value → World → Prop) : fnVC Try.prog line_Line_Expire_1.A Try.f80 [.agg #[.int .i64 w1, .int .i64 w2, .int .i64 w3, .int .i64 w4], .pointer (some ⟨t1B, t1O, none⟩)] w R = line_Line_Expire_1.F w1 w2 w3 w4 t1B t1O w R := by kernel_rfl
theorem line_Line_Expire_1.calls (w1 : Int) (w2 : Int) (w3 : Int) (w4 : Int) (t1B : Nat) (t1O : Nat) (w : World) (R : Value → World → Prop) (h : line_Line_Expire_1.F w1 w2 w3 w4 t1B t1O w R) : Calls Try.prog 80 #[.agg #[.int .i64 w1, .int .i64 w2, .int .i64 w3, .int .i64 w4], .pointer (some ⟨t1B, t1O, none⟩)] w (Ret R) :=
  calls_of_vc mixed Try.func80 (Eq.mpr (line_Line_Expire_1.vc w1 w2 w3 w4 t1B t1O w R) h)

/-! ### (*purlin/line.Line).Expire$2: function 81 -/
def line_Line_Expire_2.A : Ann where
  sched := fun i => match i with
    | 1 => some ((some 896), .still 0 false 108 <| .still 1 false 109 <| .still 2 false 99 <| .still 3 false 103 <| .still 5 true 95 <| .still 6 true 63 <| .eff 4 <| .eff 7 <| .eff 8 <| .eff 9 <| .still 10 false 1023 <| .done)
    | _ => none
  loop := fun i => match i with
    | _ => none

def line_Line_Expire_2.F (a : Int) (a1 : Int) (a2 : Int) (a3 : Int) (b : Int) (b1 : Int) (b2 : Int) (b3 : Int) (w : World) (R : Value → World → Prop) : Prop :=
 newBlk w (.cells #[.int .i64 a, .int .i64 a1, .int .i64 a2, .int .i64 a3] 139 (0, 0)) fun b4 w1 =>
 newBlk w1 (.cells #[.int .i64 b, .int .i64 b1, .int .i64 b2, .int .i64 b3] 139 (0, 0)) fun b5 w2 =>
 ∃ S : World → Prop, S w2.drew ∧ drawC w2 fun w3 =>
 ∃ t6 : Int, w3.cell? ⟨b4, 2, none⟩ = some (.int .i64 t6) ∧
 ∃ t8 : Int, w3.cell? ⟨b5, 2, none⟩ = some (.int .i64 t8) ∧
 ∃ t10 : Int, (∀ w9 : World, S w9 → w9.cell? ⟨b4, 0, none⟩ = some (.int .i64 t10)) ∧ ∃ t101 : Int, (∀ w9 : World, S w9 → w9.cell? ⟨b4, 1, none⟩ = some (.int .i64 t101)) ∧ ∃ t102 : Int, (∀ w9 : World, S w9 → w9.cell? ⟨b4, 2, none⟩ = some (.int .i64 t102)) ∧ ∃ t103 : Int, (∀ w9 : World, S w9 → w9.cell? ⟨b4, 3, none⟩ = some (.int .i64 t103)) ∧ 
 ∃ t11 : Int, (∀ w9 : World, S w9 → w9.cell? ⟨b5, 0, none⟩ = some (.int .i64 t11)) ∧ ∃ t111 : Int, (∀ w9 : World, S w9 → w9.cell? ⟨b5, 1, none⟩ = some (.int .i64 t111)) ∧ ∃ t112 : Int, (∀ w9 : World, S w9 → w9.cell? ⟨b5, 2, none⟩ = some (.int .i64 t112)) ∧ ∃ t113 : Int, (∀ w9 : World, S w9 → w9.cell? ⟨b5, 3, none⟩ = some (.int .i64 t113)) ∧ 
 Calls Try.prog 68 #[.int .i64 t6, .int .i64 t8] w3 (fun e w4 => ∃ t9 : Int, e = .returned (.int .i64 t9) ∧
 S w4 ∧ Calls Try.prog 82 #[.agg #[.int .i64 t10, .int .i64 t101, .int .i64 t102, .int .i64 t103], .agg #[.int .i64 t11, .int .i64 t111, .int .i64 t112, .int .i64 t113]] w4 (fun e w5 => ∃ t12 : Int, e = .returned (.int .i64 t12) ∧
 newBlk w5 (.cells #[.int .i64 t9, .int .i64 t12] 3 (0, 0)) fun b6 w6 =>
 Calls Try.prog 67 #[.slice (some ⟨b6, 0, none⟩) 2 2] w6 (fun e w7 => ∃ t14 : Int, e = .returned (.int .i64 t14) ∧
 R (.int .i64 t14) w7)))

theorem line_Line_Expire_2.vc (a : Int) (a1 : Int) (a2 : Int) (a3 : Int) (b : Int) (b1 : Int) (b2 : Int) (b3 : Int) (w : World) (R : Value → World → Prop) : fnVC Try.prog line_Line_Expire_2.A Try.f81 [.agg #[.int .i64 a, .int .i64 a1, .int .i64 a2, .int .i64 a3], .agg #[.int .i64 b, .int .i64 b1, .int .i64 b2, .int .i64 b3]] w R = line_Line_Expire_2.F a a1 a2 a3 b b1 b2 b3 w R := by kernel_rfl
theorem line_Line_Expire_2.calls (a : Int) (a1 : Int) (a2 : Int) (a3 : Int) (b : Int) (b1 : Int) (b2 : Int) (b3 : Int) (w : World) (R : Value → World → Prop) (h : line_Line_Expire_2.F a a1 a2 a3 b b1 b2 b3 w R) : Calls Try.prog 81 #[.agg #[.int .i64 a, .int .i64 a1, .int .i64 a2, .int .i64 a3], .agg #[.int .i64 b, .int .i64 b1, .int .i64 b2, .int .i64 b3]] w (Ret R) :=
  calls_of_vc mixed Try.func81 (Eq.mpr (line_Line_Expire_2.vc a a1 a2 a3 b b1 b2 b3 w R) h)

/-! ### cmp.Or[int]: function 67 -/
def cmp_Or_int.A : Ann where
  sched := fun i => match i with
    | _ => none
  loop := fun i => match i with
    | 3 => some [(2, none), (5, none), (8, some (.one (.int .i64))), (9, none), (10, none), (11, none), (12, none), (13, none), (14, none), (15, none), (16, none)]
    | _ => none

def cmp_Or_int.L0 (valsA : Option Addr) (valsN : Nat) (R : Value → World → Prop) (t8 : Int) (w1 : World) (Nx0 : Int → World → Prop) : Prop :=
 br (decide (t8 < ((valsN : Nat) : Int))) (
 0 ≤ (t8 : Int) ∧ t8 < ((valsN : Nat) : Int) ∧ okP valsA (
 ∃ t11 : Int, w1.cell? ⟨(pb valsA), po valsA + t8.toNat * 1, none⟩ = some (.int .i64 t11) ∧
 br (t11 != 0) (
 R (.int .i64 t11) w1) (
 Nx0 (IntKind.wrap .i64 (t8 + 1)) w1))) (
 R (.int .i64 0) w1)

def cmp_Or_int.F (valsA : Option Addr) (valsN : Nat) (valsC : Nat) (w : World) (R : Value → World → Prop) : Prop :=
 ∃ I : Nat → Int → World → Prop, (∃ n, I n 0 w) ∧ ∀ (n9 : Nat) (dead : Nat → Value) (w1 : World) (t8 : Int), I n9 t8 w1 →
 cmp_Or_int.L0 valsA valsN R t8 w1 (fun x0 w9 => ∃ m, m < n9 ∧ I m x0 w9)

theorem cmp_Or_int.vc (valsA : Option Addr) (valsN : Nat) (valsC : Nat) (w : World) (R : Value → World → Prop) : fnVC Try.prog cmp_Or_int.A Try.f67 [.slice valsA valsN valsC] w R = cmp_Or_int.F valsA valsN valsC w R := by kernel_rfl
theorem cmp_Or_int.calls (valsA : Option Addr) (valsN : Nat) (valsC : Nat) (w : World) (R : Value → World → Prop) (h : cmp_Or_int.F valsA valsN valsC w R) : Calls Try.prog 67 #[.slice valsA valsN valsC] w (Ret R) :=
  calls_of_vc mixed Try.func67 (Eq.mpr (cmp_Or_int.vc valsA valsN valsC w R) h)

/-! ### cmp.Compare[int]: function 68 -/
def cmp_Compare_int.A : Ann where
  sched := fun i => match i with
    | _ => none
  loop := fun i => match i with
    | _ => none

def cmp_Compare_int.F (x : Int) (y : Int) (w : World) (R : Value → World → Prop) : Prop :=
 Calls Try.prog 99 #[.int .i64 x] w (fun e w1 => ∃ t8 : Bool, e = .returned (.bool t8) ∧
 Calls Try.prog 99 #[.int .i64 y] w1 (fun e w2 => ∃ t10 : Bool, e = .returned (.bool t10) ∧
 br t8 (
 br t10 (
 R (.int .i64 0) w2) (
 R (.int .i64 (-1)) w2)) (
 br t10 (
 R (.int .i64 1) w2) (
 br (decide (x < y)) (
 R (.int .i64 (-1)) w2) (
 br (decide (x > y)) (
 R (.int .i64 1) w2) (
 R (.int .i64 0) w2))))))

theorem cmp_Compare_int.vc (x : Int) (y : Int) (w : World) (R : Value → World → Prop) : fnVC Try.prog cmp_Compare_int.A Try.f68 [.int .i64 x, .int .i64 y] w R = cmp_Compare_int.F x y w R := by kernel_rfl
theorem cmp_Compare_int.calls (x : Int) (y : Int) (w : World) (R : Value → World → Prop) (h : cmp_Compare_int.F x y w R) : Calls Try.prog 68 #[.int .i64 x, .int .i64 y] w (Ret R) :=
  calls_of_vc mixed Try.func68 (Eq.mpr (cmp_Compare_int.vc x y w R) h)

/-! ### cmp.isNaN[int]: function 99 -/
def cmp_isNaN_int.A : Ann where
  sched := fun i => match i with
    | _ => none
  loop := fun i => match i with
    | _ => none

def cmp_isNaN_int.F (x : Int) (w : World) (R : Value → World → Prop) : Prop :=
 R (.bool (x != x)) w

theorem cmp_isNaN_int.vc (x : Int) (w : World) (R : Value → World → Prop) : fnVC Try.prog cmp_isNaN_int.A Try.f99 [.int .i64 x] w R = cmp_isNaN_int.F x w R := by kernel_rfl
theorem cmp_isNaN_int.calls (x : Int) (w : World) (R : Value → World → Prop) (h : cmp_isNaN_int.F x w R) : Calls Try.prog 99 #[.int .i64 x] w (Ret R) :=
  calls_of_vc mixed Try.func99 (Eq.mpr (cmp_isNaN_int.vc x w R) h)

end Go.Proofs.Ytecacohkkdhphaa
