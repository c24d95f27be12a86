/- Printed by vcgen.py: of each function of this text its weakest precondition as a formula, and that it is one. Conditions: none. -/
import Derived.Test.YtgkbokhmmoemfaaVcCode
import Derived.Test.YtgkbokhmmoemfaaVcMem
import Derived.Test.YtgkbokhmmoemfaaChecked
namespace Go.Proofs.Ytgkbokhmmoemfaa
open Go.Vc
set_option linter.unusedVariables false
set_option maxRecDepth 100000

/-! ### purlin/health.New: function 12 -/
def health_New.A : Ann where
  sched := fun i => match i with
    | _ => none
  loop := fun i => match i with
    | _ => none

def health_New.F (size : Int) (w : World) (R : Value → World → Prop) : Prop :=
 br (decide (size < 1)) (
 R (.tuple #[.pointer none, .int .i64 180]) w) (
 br (decide (size > 64)) (
 R (.tuple #[.pointer none, .int .i64 180]) w) (
 newBlk w (.cells ((zcells Try.prog 76).setIfInBounds 320 (.int .i64 size)) 76 (0, 0)) fun b w1 =>
 R (.tuple #[.pointer (some ⟨b, 0, none⟩), .int .i64 0]) w1))

theorem health_New.vc (size : Int) (w : World) (R : Value → World → Prop) : fnVC Try.prog health_New.A Try.f12 [.int .i64 size] w R = health_New.F size w R := by kernel_rfl
theorem health_New.calls (size : Int) (w : World) (R : Value → World → Prop) (h : health_New.F size w R) : Calls Try.prog 12 #[.int .i64 size] w (Ret R) :=
  calls_of_vc mixed Try.func12 (Eq.mpr (health_New.vc size w R) h)

/-! ### (*purlin/health.Log).Add: function 15 -/
def health_Log_Add.A : Ann where
  sched := fun i => match i with
    | 3 => some (none, .still 0 false 65534 <| .still 1 false 245217 <| .still 2 false 245219 <| .still 3 false 245223 <| .still 4 false 245231 <| .still 5 false 244767 <| .still 6 false 244799 <| .still 7 false 244863 <| .still 8 false 244991 <| .still 9 false 245247 <| .still 10 false 230399 <| .still 11 false 231423 <| .still 12 false 233471 <| .still 13 false 237567 <| .still 14 false 245759 <| .still 15 false 229375 <| .still 16 false 65535 <| .still 17 false 131071 <| .still 18 false 262143 <| .eff 19 <| .done)
    | 4 => some (none, .still 0 false 240 <| .still 1 false 241 <| .still 2 false 243 <| .still 3 false 247 <| .still 4 false 15 <| .still 5 false 31 <| .still 6 false 63 <| .still 7 false 127 <| .still 8 false 255 <| .done)
    | 6 => some (none, .still 0 false 2046 <| .still 1 false 961 <| .still 2 false 963 <| .still 3 false 967 <| .still 4 false 975 <| .still 5 false 991 <| .still 6 false 63 <| .still 7 false 127 <| .still 8 false 255 <| .still 9 false 511 <| .still 10 false 1023 <| .still 11 false 2047 <| .still 12 false 4095 <| .eff 13 <| .done)
    | _ => none
  loop := fun i => match i with
    | 1 => some [(5, none), (8, some (.one (.int .i64))), (9, none), (10, none), (11, none), (12, none), (13, none), (14, none), (15, none), (16, none), (17, none), (18, none), (19, none), (20, none), (21, none), (22, none), (23, none), (24, none), (25, none), (26, none), (27, none), (28, none), (29, none), (30, none), (31, none), (32, none), (33, none), (34, none), (35, none), (36, none), (37, none), (38, none), (39, none), (40, none), (41, none), (42, none), (43, none), (44, none), (45, none), (46, none), (47, none), (48, none), (49, none), (50, none), (51, none), (52, none), (53, none), (54, none), (55, none), (56, none), (57, none), (58, none), (59, none), (60, none), (61, none), (62, none), (63, none), (64, none), (65, none), (66, none), (67, none)]
    | _ => none

def health_Log_Add.L0 (lB : Nat) (lO : Nat) (entriesA : Option Addr) (entriesN : Nat) (R : Value → World → Prop) (t8 : Int) (w1 : World) (Nx0 : Int → World → Prop) : Prop :=
 br (decide (t8 < ((entriesN : Nat) : Int))) (
 0 ≤ (t8 : Int) ∧ t8 < ((entriesN : Nat) : Int) ∧ okP entriesA (
 ∃ t11 : Int, w1.cell? ⟨(pb entriesA), po entriesA + t8.toNat * 5, none⟩ = some (.int .i64 t11) ∧ ∃ t111 : Int, w1.cell? ⟨(pb entriesA), po entriesA + t8.toNat * 5 + 1, none⟩ = some (.int .i64 t111) ∧ ∃ t112 : Int, w1.cell? ⟨(pb entriesA), po entriesA + t8.toNat * 5 + 2, none⟩ = some (.int .i64 t112) ∧ ∃ t113 : Int, w1.cell? ⟨(pb entriesA), po entriesA + t8.toNat * 5 + 3, none⟩ = some (.int .u8 t113) ∧ ∃ t114 : Int, w1.cell? ⟨(pb entriesA), po entriesA + t8.toNat * 5 + 4, none⟩ = some (.int .u8 t114) ∧ 
 newBlk w1 (.cells #[.int .i64 0, .int .i64 0, .int .i64 0, .int .u8 0, .int .u8 0] 34 (0, 0)) fun b w2 =>
 storeC w2 b 0 [.int .i64 t11, .int .i64 t111, .int .i64 t112, .int .u8 t113, .int .u8 t114] fun w3 =>
 drawC w3 fun w4 =>
 ∃ t16 : Int, w4.cell? ⟨lB, lO + 322, none⟩ = some (.int .i64 t16) ∧
 ∃ t20 : Int, w4.cell? ⟨lB, lO + 323, none⟩ = some (.int .i64 t20) ∧
 ∃ t25 : Int, w4.cell? ⟨lB, lO + 320, none⟩ = some (.int .i64 t25) ∧
 t25 ≠ 0 ∧
 ∃ t27 : Int, w4.cell? ⟨b, 0, none⟩ = some (.int .i64 t27) ∧ ∃ t271 : Int, w4.cell? ⟨b, 1, none⟩ = some (.int .i64 t271) ∧ ∃ t272 : Int, w4.cell? ⟨b, 2, none⟩ = some (.int .i64 t272) ∧ ∃ t273 : Int, w4.cell? ⟨b, 3, none⟩ = some (.int .u8 t273) ∧ ∃ t274 : Int, w4.cell? ⟨b, 4, none⟩ = some (.int .u8 t274) ∧ 
 0 ≤ ((IntKind.wrap .i64 (t16 + t20)).tmod t25 : Int) ∧ (IntKind.wrap .i64 (t16 + t20)).tmod t25 < (64 : Int) ∧ storeC w4 lB (lO + ((IntKind.wrap .i64 (t16 + t20)).tmod t25).toNat * 5) [.int .i64 t27, .int .i64 t271, .int .i64 t272, .int .u8 t273, .int .u8 t274] fun w5 =>
 drawC w5 fun w6 =>
 ∃ t34 : Int, w6.cell? ⟨lB, lO + 323, none⟩ = some (.int .i64 t34) ∧
 ∃ t38 : Int, w6.cell? ⟨lB, lO + 320, none⟩ = some (.int .i64 t38) ∧
 br (decide (t34 < t38)) (
 ∃ t43 : Int, w6.cell? ⟨lB, lO + 323, none⟩ = some (.int .i64 t43) ∧
 storeC w6 lB (lO + 323) [.int .i64 (IntKind.wrap .i64 (t43 + 1))] fun w7 =>
 ∃ t63 : Int, w7.cell? ⟨lB, lO + 321, none⟩ = some (.int .i64 t63) ∧
 storeC w7 lB (lO + 321) [.int .i64 (IntKind.wrap .i64 (t63 + 1))] fun w8 =>
 Nx0 (IntKind.wrap .i64 (t8 + 1)) w8) (
 drawC w6 fun w9 =>
 ∃ t51 : Int, w9.cell? ⟨lB, lO + 322, none⟩ = some (.int .i64 t51) ∧
 ∃ t56 : Int, w9.cell? ⟨lB, lO + 320, none⟩ = some (.int .i64 t56) ∧
 t56 ≠ 0 ∧
 storeC w9 lB (lO + 322) [.int .i64 ((IntKind.wrap .i64 (t51 + 1)).tmod t56)] fun w10 =>
 ∃ t631 : Int, w10.cell? ⟨lB, lO + 321, none⟩ = some (.int .i64 t631) ∧
 storeC w10 lB (lO + 321) [.int .i64 (IntKind.wrap .i64 (t631 + 1))] fun w11 =>
 Nx0 (IntKind.wrap .i64 (t8 + 1)) w11))) (
 R (.tuple #[]) w1)

def health_Log_Add.F (lB : Nat) (lO : Nat) (entriesA : Option Addr) (entriesN : Nat) (entriesC : Nat) (w : World) (R : Value → World → Prop) : Prop :=
 ∃ I : Nat → Int → World → Prop, (∃ n, I n 0 w) ∧ ∀ (n9 : Nat) (dead : Nat → Value) (w1 : World) (t8 : Int), I n9 t8 w1 →
 health_Log_Add.L0 lB lO entriesA entriesN R t8 w1 (fun x0 w9 => ∃ m, m < n9 ∧ I m x0 w9)

theorem health_Log_Add.vc (lB : Nat) (lO : Nat) (entriesA : Option Addr) (entriesN : Nat) (entriesC : Nat) (w : World) (R : Value → World → Prop) : fnVC Try.prog health_Log_Add.A Try.f15 [.pointer (some ⟨lB, lO, none⟩), .slice entriesA entriesN entriesC] w R = health_Log_Add.F lB lO entriesA entriesN entriesC w R := by kernel_rfl
theorem health_Log_Add.calls (lB : Nat) (lO : Nat) (entriesA : Option Addr) (entriesN : Nat) (entriesC : Nat) (w : World) (R : Value → World → Prop) (h : health_Log_Add.F lB lO entriesA entriesN entriesC w R) : Calls Try.prog 15 #[.pointer (some ⟨lB, lO, none⟩), .slice entriesA entriesN entriesC] w (Ret R) :=
  calls_of_vc mixed Try.func15 (Eq.mpr (health_Log_Add.vc lB lO entriesA entriesN entriesC w R) h)

/-! ### (*purlin/health.Log).some: function 39 -/
def health_Log_some.A : Ann where
  sched := fun i => match i with
    | 5 => some ((some 131072), .still 0 true 69630 <| .still 1 true 79777 <| .still 2 true 79779 <| .still 3 true 79783 <| .still 5 true 79775 <| .still 7 true 77951 <| .still 8 true 78079 <| .still 9 true 78335 <| .still 12 true 69631 <| .still 13 true 73727 <| .still 4 true 79791 <| .still 6 true 79807 <| .still 10 true 78847 <| .still 11 true 79871 <| .still 14 true 81919 <| .still 15 true 98303 <| .eff 16 <| .eff 17 <| .done)
    | _ => none
  loop := fun i => match i with
    | 3 => some [(5, some (.one (.slice))), (6, none), (7, none), (12, some (.one (.int .i64))), (13, none), (14, none), (15, none), (16, none), (17, none), (18, none), (19, none), (20, none), (21, none), (22, none), (23, none), (24, none), (25, none), (26, none), (27, none), (28, none), (29, none), (30, none), (31, none), (32, none), (33, none), (34, none), (35, none), (36, none), (37, none), (38, none)]
    | _ => none

def health_Log_some.L0 (lB : Nat) (lO : Nat) (isV : Value) (R : Value → World → Prop) (t11 : Int) (outA : Option Addr) (outN : Nat) (outC : Nat) (t12 : Int) (w1 : World) (Nx0 : Option Addr → Nat → Nat → Int → World → Prop) : Prop :=
 br (decide (t12 < t11)) (
 ∃ S : World → Prop, S w1.drew ∧ drawC w1 fun w2 =>
 ∃ t19 : Int, (∀ w9 : World, S w9 → w9.cell? ⟨lB, lO + 322, none⟩ = some (.int .i64 t19)) ∧
 ∃ t25 : Int, (∀ w9 : World, S w9 → w9.cell? ⟨lB, lO + 320, none⟩ = some (.int .i64 t25)) ∧
 t25 ≠ 0 ∧
 0 ≤ ((IntKind.wrap .i64 (t19 + t12)).tmod t25 : Int) ∧ (IntKind.wrap .i64 (t19 + t12)).tmod t25 < (64 : Int) ∧ ∃ t30 : Int, (∀ w9 : World, S w9 → w9.cell? ⟨lB, lO + ((IntKind.wrap .i64 (t19 + t12)).tmod t25).toNat * 5, none⟩ = some (.int .i64 t30)) ∧ ∃ t301 : Int, (∀ w9 : World, S w9 → w9.cell? ⟨lB, lO + ((IntKind.wrap .i64 (t19 + t12)).tmod t25).toNat * 5 + 1, none⟩ = some (.int .i64 t301)) ∧ ∃ t302 : Int, (∀ w9 : World, S w9 → w9.cell? ⟨lB, lO + ((IntKind.wrap .i64 (t19 + t12)).tmod t25).toNat * 5 + 2, none⟩ = some (.int .i64 t302)) ∧ ∃ t303 : Int, (∀ w9 : World, S w9 → w9.cell? ⟨lB, lO + ((IntKind.wrap .i64 (t19 + t12)).tmod t25).toNat * 5 + 3, none⟩ = some (.int .u8 t303)) ∧ ∃ t304 : Int, (∀ w9 : World, S w9 → w9.cell? ⟨lB, lO + ((IntKind.wrap .i64 (t19 + t12)).tmod t25).toNat * 5 + 4, none⟩ = some (.int .u8 t304)) ∧ 
 newBlk w2 (.cells #[.int .i64 0, .int .i64 0, .int .i64 0, .int .u8 0, .int .u8 0] 34 (0, 0)) fun b w3 =>
 S w3 ∧ storeC w3 b 0 [.int .i64 t30, .int .i64 t301, .int .i64 t302, .int .u8 t303, .int .u8 t304] fun w4 =>
 ∃ t32 : Int, w4.cell? ⟨b, 0, none⟩ = some (.int .i64 t32) ∧ ∃ t321 : Int, w4.cell? ⟨b, 1, none⟩ = some (.int .i64 t321) ∧ ∃ t322 : Int, w4.cell? ⟨b, 2, none⟩ = some (.int .i64 t322) ∧ ∃ t323 : Int, w4.cell? ⟨b, 3, none⟩ = some (.int .u8 t323) ∧ ∃ t324 : Int, w4.cell? ⟨b, 4, none⟩ = some (.int .u8 t324) ∧ 
 ∃ (f : FuncId) (args : Array Value) (w8 : World), (callV (isV) #[.agg #[.int .i64 t32, .int .i64 t321, .int .i64 t322, .int .u8 t323, .int .u8 t324]]).run Try.prog w4 = .ok (.enter f args) w8 ∧
 Calls Try.prog f args w8 (fun e w5 => ∃ t33 : Bool, e = .returned (.bool t33) ∧
 br t33 (
 ∃ t35 : Int, w5.cell? ⟨b, 0, none⟩ = some (.int .i64 t35) ∧ ∃ t351 : Int, w5.cell? ⟨b, 1, none⟩ = some (.int .i64 t351) ∧ ∃ t352 : Int, w5.cell? ⟨b, 2, none⟩ = some (.int .i64 t352) ∧ ∃ t353 : Int, w5.cell? ⟨b, 3, none⟩ = some (.int .u8 t353) ∧ ∃ t354 : Int, w5.cell? ⟨b, 4, none⟩ = some (.int .u8 t354) ∧ 
 newBlk w5 (.cells #[.int .i64 t35, .int .i64 t351, .int .i64 t352, .int .u8 t353, .int .u8 t354] 34 (0, 0)) fun b1 w6 =>
 ∃ t37A : Option Addr, ∃ t37N : Nat, ∃ t37C : Nat, ∃ w7 : World, (Builtin.append_ #[22, 22] 22 #[.slice outA outN outC, .slice (some ⟨b1, 0, none⟩) 1 1]).run Try.prog w6 = .ok (.slice t37A t37N t37C) w7 ∧
 Nx0 t37A t37N t37C (IntKind.wrap .i64 (t12 + 1)) w7) (
 Nx0 outA outN outC (IntKind.wrap .i64 (t12 + 1)) w5))) (
 R (.slice outA outN outC) w1)

def health_Log_some.F (lB : Nat) (lO : Nat) (isV : Value) (w : World) (R : Value → World → Prop) : Prop :=
 ∃ t11 : Int, w.cell? ⟨lB, lO + 323, none⟩ = some (.int .i64 t11) ∧
 ∃ I : Nat → Option Addr → Nat → Nat → Int → World → Prop, (∃ n, I n none 0 0 0 w) ∧ ∀ (n9 : Nat) (dead : Nat → Value) (w1 : World) (outA : Option Addr) (outN : Nat) (outC : Nat) (t12 : Int), I n9 outA outN outC t12 w1 →
 health_Log_some.L0 lB lO isV R t11 outA outN outC t12 w1 (fun x0 x1 x2 x3 w9 => ∃ m, m < n9 ∧ I m x0 x1 x2 x3 w9)

theorem health_Log_some.vc (lB : Nat) (lO : Nat) (isV : Value) (w : World) (R : Value → World → Prop) : fnVC Try.prog health_Log_some.A Try.f39 [.pointer (some ⟨lB, lO, none⟩), isV] w R = health_Log_some.F lB lO isV w R := by kernel_rfl
theorem health_Log_some.calls (lB : Nat) (lO : Nat) (isV : Value) (w : World) (R : Value → World → Prop) (h : health_Log_some.F lB lO isV w R) : Calls Try.prog 39 #[.pointer (some ⟨lB, lO, none⟩), isV] w (Ret R) :=
  calls_of_vc mixed Try.func39 (Eq.mpr (health_Log_some.vc lB lO isV w R) h)

/-! ### (*purlin/health.Log).List: function 18 -/
def health_Log_List.A : Ann where
  sched := fun i => match i with
    | _ => none
  loop := fun i => match i with
    | _ => none

def health_Log_List.F (lB : Nat) (lO : Nat) (w : World) (R : Value → World → Prop) : Prop :=
 Calls Try.prog 39 #[.pointer (some ⟨lB, lO, none⟩), .func (.func 40) #[] #[]] w (fun e w1 => ∃ t4A : Option Addr, ∃ t4N : Nat, ∃ t4C : Nat, e = .returned (.slice t4A t4N t4C) ∧
 R (.slice t4A t4N t4C) w1)

theorem health_Log_List.vc (lB : Nat) (lO : Nat) (w : World) (R : Value → World → Prop) : fnVC Try.prog health_Log_List.A Try.f18 [.pointer (some ⟨lB, lO, none⟩)] w R = health_Log_List.F lB lO w R := by kernel_rfl
theorem health_Log_List.calls (lB : Nat) (lO : Nat) (w : World) (R : Value → World → Prop) (h : health_Log_List.F lB lO w R) : Calls Try.prog 18 #[.pointer (some ⟨lB, lO, none⟩)] w (Ret R) :=
  calls_of_vc mixed Try.func18 (Eq.mpr (health_Log_List.vc lB lO w R) h)

/-! ### (*purlin/health.Log).List$1: function 40 -/
def health_Log_List_1.A : Ann where
  sched := fun i => match i with
    | _ => none
  loop := fun i => match i with
    | _ => none

def health_Log_List_1.F (t0 : Int) (t01 : Int) (t02 : Int) (t03 : Int) (t04 : Int) (w : World) (R : Value → World → Prop) : Prop :=
 newBlk w (.cells #[.int .i64 t0, .int .i64 t01, .int .i64 t02, .int .u8 t03, .int .u8 t04] 34 (0, 0)) fun b w1 =>
 R (.bool true) w1

theorem health_Log_List_1.vc (t0 : Int) (t01 : Int) (t02 : Int) (t03 : Int) (t04 : Int) (w : World) (R : Value → World → Prop) : fnVC Try.prog health_Log_List_1.A Try.f40 [.agg #[.int .i64 t0, .int .i64 t01, .int .i64 t02, .int .u8 t03, .int .u8 t04]] w R = health_Log_List_1.F t0 t01 t02 t03 t04 w R := by kernel_rfl
theorem health_Log_List_1.calls (t0 : Int) (t01 : Int) (t02 : Int) (t03 : Int) (t04 : Int) (w : World) (R : Value → World → Prop) (h : health_Log_List_1.F t0 t01 t02 t03 t04 w R) : Calls Try.prog 40 #[.agg #[.int .i64 t0, .int .i64 t01, .int .i64 t02, .int .u8 t03, .int .u8 t04]] w (Ret R) :=
  calls_of_vc mixed Try.func40 (Eq.mpr (health_Log_List_1.vc t0 t01 t02 t03 t04 w R) h)

/-! ### (*purlin/health.Log).Dropped: function 20 -/
def health_Log_Dropped.A : Ann where
  sched := fun i => match i with
    | 1 => some (none, .still 0 false 240 <| .still 1 false 241 <| .still 2 false 243 <| .still 3 false 247 <| .still 4 false 15 <| .still 5 false 31 <| .still 6 false 63 <| .still 7 false 127 <| .still 8 false 255 <| .still 9 false 511 <| .done)
    | _ => none
  loop := fun i => match i with
    | _ => none

def health_Log_Dropped.F (lB : Nat) (lO : Nat) (w : World) (R : Value → World → Prop) : Prop :=
 drawC w fun w1 =>
 ∃ t6 : Int, w1.cell? ⟨lB, lO + 321, none⟩ = some (.int .i64 t6) ∧
 ∃ t10 : Int, w1.cell? ⟨lB, lO + 323, none⟩ = some (.int .i64 t10) ∧
 R (.int .i64 (IntKind.wrap .i64 (t6 - t10))) w1

theorem health_Log_Dropped.vc (lB : Nat) (lO : Nat) (w : World) (R : Value → World → Prop) : fnVC Try.prog health_Log_Dropped.A Try.f20 [.pointer (some ⟨lB, lO, none⟩)] w R = health_Log_Dropped.F lB lO w R := by kernel_rfl
theorem health_Log_Dropped.calls (lB : Nat) (lO : Nat) (w : World) (R : Value → World → Prop) (h : health_Log_Dropped.F lB lO w R) : Calls Try.prog 20 #[.pointer (some ⟨lB, lO, none⟩)] w (Ret R) :=
  calls_of_vc mixed Try.func20 (Eq.mpr (health_Log_Dropped.vc lB lO w R) h)

/-! ### (*purlin/health.Log).Of: function 22 -/
def health_Log_Of.A : Ann where
  sched := fun i => match i with
    | _ => none
  loop := fun i => match i with
    | _ => none

def health_Log_Of.F (lB : Nat) (lO : Nat) (part : Int) (w : World) (R : Value → World → Prop) : Prop :=
 newBlk w (.cells #[.int .i64 part] 3 (0, 0)) fun b w1 =>
 Calls Try.prog 39 #[.pointer (some ⟨lB, lO, none⟩), .func (.func 41) #[] #[.pointer (some ⟨b, 0, none⟩)]] w1 (fun e w2 => ∃ t7A : Option Addr, ∃ t7N : Nat, ∃ t7C : Nat, e = .returned (.slice t7A t7N t7C) ∧
 R (.slice t7A t7N t7C) w2)

theorem health_Log_Of.vc (lB : Nat) (lO : Nat) (part : Int) (w : World) (R : Value → World → Prop) : fnVC Try.prog health_Log_Of.A Try.f22 [.pointer (some ⟨lB, lO, none⟩), .int .i64 part] w R = health_Log_Of.F lB lO part w R := by kernel_rfl
theorem health_Log_Of.calls (lB : Nat) (lO : Nat) (part : Int) (w : World) (R : Value → World → Prop) (h : health_Log_Of.F lB lO part w R) : Calls Try.prog 22 #[.pointer (some ⟨lB, lO, none⟩), .int .i64 part] w (Ret R) :=
  calls_of_vc mixed Try.func22 (Eq.mpr (health_Log_Of.vc lB lO part w R) h)

/-! ### (*purlin/health.Log).Of$1: function 41 -/
def health_Log_Of_1.A : Ann where
  sched := fun i => match i with
    | _ => none
  loop := fun i => match i with
    | _ => none

def health_Log_Of_1.F (x : Int) (x1 : Int) (x2 : Int) (x3 : Int) (x4 : Int) (t1B : Nat) (t1O : Nat) (w : World) (R : Value → World → Prop) : Prop :=
 newBlk w (.cells #[.int .i64 x, .int .i64 x1, .int .i64 x2, .int .u8 x3, .int .u8 x4] 34 (0, 0)) fun b w1 =>
 ∃ t5 : Int, w1.cell? ⟨b, 1, none⟩ = some (.int .i64 t5) ∧
 ∃ t6 : Int, w1.cell? ⟨t1B, t1O, none⟩ = some (.int .i64 t6) ∧
 R (.bool (t5 == t6)) w1

theorem health_Log_Of_1.vc (x : Int) (x1 : Int) (x2 : Int) (x3 : Int) (x4 : Int) (t1B : Nat) (t1O : Nat) (w : World) (R : Value → World → Prop) : fnVC Try.prog health_Log_Of_1.A Try.f41 [.agg #[.int .i64 x, .int .i64 x1, .int .i64 x2, .int .u8 x3, .int .u8 x4], .pointer (some ⟨t1B, t1O, none⟩)] w R = health_Log_Of_1.F x x1 x2 x3 x4 t1B t1O w R := by kernel_rfl
theorem health_Log_Of_1.calls (x : Int) (x1 : Int) (x2 : Int) (x3 : Int) (x4 : Int) (t1B : Nat) (t1O : Nat) (w : World) (R : Value → World → Prop) (h : health_Log_Of_1.F x x1 x2 x3 x4 t1B t1O w R) : Calls Try.prog 41 #[.agg #[.int .i64 x, .int .i64 x1, .int .i64 x2, .int .u8 x3, .int .u8 x4], .pointer (some ⟨t1B, t1O, none⟩)] w (Ret R) :=
  calls_of_vc mixed Try.func41 (Eq.mpr (health_Log_Of_1.vc x x1 x2 x3 x4 t1B t1O w R) h)

/-! ### purlin/health.Act: function 24 -/
def health_Act.A : Ann where
  sched := fun i => match i with
    | _ => none
  loop := fun i => match i with
    | _ => none

def health_Act.F (acts : Int) (acts1 : Int) (acts2 : Int) (kind : Int) (w : World) (R : Value → World → Prop) : Prop :=
 newBlk w (.cells #[.int .u8 acts, .int .u8 acts1, .int .u8 acts2] 45 (0, 0)) fun b w1 =>
 br (decide (kind < 0)) (
 R (.tuple #[.bool false, .bool false, .bool false, .int .i64 181]) w1) (
 br (decide (kind ≥ 3)) (
 R (.tuple #[.bool false, .bool false, .bool false, .int .i64 181]) w1) (
 0 ≤ (kind : Int) ∧ kind < (3 : Int) ∧ ∃ t16 : Int, w1.cell? ⟨b, 0 + kind.toNat * 1, none⟩ = some (.int .u8 t16) ∧
 br ((if 2 < t16 then 2 else t16) == 2) (
 R (.tuple #[.bool true, .bool true, .bool true, .int .i64 0]) w1) (
 br ((if 2 < t16 then 2 else t16) == 1) (
 R (.tuple #[.bool true, .bool true, .bool false, .int .i64 0]) w1) (
 br ((if 2 < t16 then 2 else t16) == 0) (
 R (.tuple #[.bool true, .bool false, .bool false, .int .i64 0]) w1) (
 R (.tuple #[.bool false, .bool false, .bool false, .int .i64 0]) w1)))))

theorem health_Act.vc (acts : Int) (acts1 : Int) (acts2 : Int) (kind : Int) (w : World) (R : Value → World → Prop) : fnVC Try.prog health_Act.A Try.f24 [.agg #[.int .u8 acts, .int .u8 acts1, .int .u8 acts2], .int .i64 kind] w R = health_Act.F acts acts1 acts2 kind w R := by kernel_rfl
theorem health_Act.calls (acts : Int) (acts1 : Int) (acts2 : Int) (kind : Int) (w : World) (R : Value → World → Prop) (h : health_Act.F acts acts1 acts2 kind w R) : Calls Try.prog 24 #[.agg #[.int .u8 acts, .int .u8 acts1, .int .u8 acts2], .int .i64 kind] w (Ret R) :=
  calls_of_vc mixed Try.func24 (Eq.mpr (health_Act.vc acts acts1 acts2 kind w R) h)

/-! ### purlin/purlinref18.New: function 13 -/
def purlinref18_New.A : Ann where
  sched := fun i => match i with
    | _ => none
  loop := fun i => match i with
    | _ => none

def purlinref18_New.F (size : Int) (w : World) (R : Value → World → Prop) : Prop :=
 newBlk w (.cells #[.int .i64 0, .slice none 0 0] 28 (0, 0)) fun b w1 =>
 br (decide (size < 1)) (
 storeC w1 b 0 [.int .i64 0, .slice none 0 0] fun w2 =>
 ∃ r : Int, w2.cell? ⟨b, 0, none⟩ = some (.int .i64 r) ∧ ∃ rA : Option Addr, ∃ rN : Nat, ∃ rC : Nat, w2.cell? ⟨b, 1, none⟩ = some (.slice rA rN rC) ∧ 
 R (.tuple #[.agg #[.int .i64 r, .slice rA rN rC], .int .i64 180]) w2) (
 br (decide (size > 64)) (
 storeC w1 b 0 [.int .i64 0, .slice none 0 0] fun w3 =>
 ∃ r1 : Int, w3.cell? ⟨b, 0, none⟩ = some (.int .i64 r1) ∧ ∃ rA1 : Option Addr, ∃ rN1 : Nat, ∃ rC1 : Nat, w3.cell? ⟨b, 1, none⟩ = some (.slice rA1 rN1 rC1) ∧ 
 R (.tuple #[.agg #[.int .i64 r1, .slice rA1 rN1 rC1], .int .i64 180]) w3) (
 storeC w1 b 0 [.int .i64 size, .slice none 0 0] fun w4 =>
 ∃ r2 : Int, w4.cell? ⟨b, 0, none⟩ = some (.int .i64 r2) ∧ ∃ rA2 : Option Addr, ∃ rN2 : Nat, ∃ rC2 : Nat, w4.cell? ⟨b, 1, none⟩ = some (.slice rA2 rN2 rC2) ∧ 
 R (.tuple #[.agg #[.int .i64 r2, .slice rA2 rN2 rC2], .int .i64 0]) w4))

theorem purlinref18_New.vc (size : Int) (w : World) (R : Value → World → Prop) : fnVC Try.prog purlinref18_New.A Try.f13 [.int .i64 size] w R = purlinref18_New.F size w R := by kernel_rfl
theorem purlinref18_New.calls (size : Int) (w : World) (R : Value → World → Prop) (h : purlinref18_New.F size w R) : Calls Try.prog 13 #[.int .i64 size] w (Ret R) :=
  calls_of_vc mixed Try.func13 (Eq.mpr (purlinref18_New.vc size w R) h)

/-! ### purlin/purlinref18.Add: function 16 -/
def purlinref18_Add.A : Ann where
  sched := fun i => match i with
    | 1 => some ((some 320), .still 1 true 49 <| .still 2 true 51 <| .still 4 true 15 <| .alt 0 (.alt 3 (.eff 5 <| .eff 6 <| .still 7 false 127 <| .eff 8 <| .done) <| .eff 5 <| .eff 3 <| .eff 6 <| .still 7 false 127 <| .eff 8 <| .done) <| .eff 5 <| .eff 0 <| .eff 3 <| .eff 6 <| .still 7 false 127 <| .eff 8 <| .done)
    | _ => none
  loop := fun i => match i with
    | _ => none

def purlinref18_Add.F (l : Int) (lA : Option Addr) (lN : Nat) (lC : Nat) (x : Int) (x1 : Int) (x2 : Int) (x3 : Int) (x4 : Int) (w : World) (R : Value → World → Prop) : Prop :=
 newBlk w (.cells #[.int .i64 l, .slice lA lN lC] 28 (0, 0)) fun b w1 =>
 newBlk w1 (.cells #[.int .i64 x, .int .i64 x1, .int .i64 x2, .int .u8 x3, .int .u8 x4] 34 (0, 0)) fun b1 w2 =>
 newBlk w2 (.cells #[.int .i64 0, .slice none 0 0] 28 (0, 0)) fun b2 w3 =>
 ∃ S : World → Prop, S w3.drew ∧ drawC w3 fun w4 =>
 ∃ t7A : Option Addr, ∃ t7N : Nat, ∃ t7C : Nat, (∀ w9 : World, S w9 → w9.cell? ⟨b, 1, none⟩ = some (.slice t7A t7N t7C)) ∧
 ∃ t9 : Int, (∀ w9 : World, S w9 → w9.cell? ⟨b1, 0, none⟩ = some (.int .i64 t9)) ∧ ∃ t91 : Int, (∀ w9 : World, S w9 → w9.cell? ⟨b1, 1, none⟩ = some (.int .i64 t91)) ∧ ∃ t92 : Int, (∀ w9 : World, S w9 → w9.cell? ⟨b1, 2, none⟩ = some (.int .i64 t92)) ∧ ∃ t93 : Int, (∀ w9 : World, S w9 → w9.cell? ⟨b1, 3, none⟩ = some (.int .u8 t93)) ∧ ∃ t94 : Int, (∀ w9 : World, S w9 → w9.cell? ⟨b1, 4, none⟩ = some (.int .u8 t94)) ∧ 
 (newBlk w4 (.cells #[] 34 (0, 0)) fun b3 w5 =>
 S w5 ∧ (∃ t8A : Option Addr, ∃ t8N : Nat, ∃ t8C : Nat, ∃ w6 : World, (Builtin.append_ #[22, 22] 22 #[.slice (some ⟨b3, 0, none⟩) 0 0, .slice t7A t7N t7C]).run Try.prog w5 = .ok (.slice t8A t8N t8C) w6 ∧
 S w6 ∧ newBlk w6 (.cells #[.int .i64 t9, .int .i64 t91, .int .i64 t92, .int .u8 t93, .int .u8 t94] 34 (0, 0)) fun b4 w7 =>
 S w7 ∧ ∃ t11A : Option Addr, ∃ t11N : Nat, ∃ t11C : Nat, ∃ w8 : World, (Builtin.append_ #[22, 22] 22 #[.slice t8A t8N t8C, .slice (some ⟨b4, 0, none⟩) 1 1]).run Try.prog w7 = .ok (.slice t11A t11N t11C) w8 ∧
 storeC w8 b 1 [.slice t11A t11N t11C] fun w9 =>
 ∃ t13 : Int, w9.cell? ⟨b, 0, none⟩ = some (.int .i64 t13) ∧ ∃ t13A : Option Addr, ∃ t13N : Nat, ∃ t13C : Nat, w9.cell? ⟨b, 1, none⟩ = some (.slice t13A t13N t13C) ∧ 
 storeC w9 b2 0 [.int .i64 t13, .slice t13A t13N t13C] fun w10 =>
 ∃ r : Int, w10.cell? ⟨b2, 0, none⟩ = some (.int .i64 r) ∧ ∃ rA : Option Addr, ∃ rN : Nat, ∃ rC : Nat, w10.cell? ⟨b2, 1, none⟩ = some (.slice rA rN rC) ∧ 
 R (.agg #[.int .i64 r, .slice rA rN rC]) w10) ∧
 (newBlk w5 (.cells #[.int .i64 t9, .int .i64 t91, .int .i64 t92, .int .u8 t93, .int .u8 t94] 34 (0, 0)) fun b5 w11 =>
 S w11 ∧ ∃ t8A1 : Option Addr, ∃ t8N1 : Nat, ∃ t8C1 : Nat, ∃ w12 : World, (Builtin.append_ #[22, 22] 22 #[.slice (some ⟨b3, 0, none⟩) 0 0, .slice t7A t7N t7C]).run Try.prog w11 = .ok (.slice t8A1 t8N1 t8C1) w12 ∧
 S w12 ∧ ∃ t11A1 : Option Addr, ∃ t11N1 : Nat, ∃ t11C1 : Nat, ∃ w13 : World, (Builtin.append_ #[22, 22] 22 #[.slice t8A1 t8N1 t8C1, .slice (some ⟨b5, 0, none⟩) 1 1]).run Try.prog w12 = .ok (.slice t11A1 t11N1 t11C1) w13 ∧
 storeC w13 b 1 [.slice t11A1 t11N1 t11C1] fun w14 =>
 ∃ t131 : Int, w14.cell? ⟨b, 0, none⟩ = some (.int .i64 t131) ∧ ∃ t13A1 : Option Addr, ∃ t13N1 : Nat, ∃ t13C1 : Nat, w14.cell? ⟨b, 1, none⟩ = some (.slice t13A1 t13N1 t13C1) ∧ 
 storeC w14 b2 0 [.int .i64 t131, .slice t13A1 t13N1 t13C1] fun w15 =>
 ∃ r1 : Int, w15.cell? ⟨b2, 0, none⟩ = some (.int .i64 r1) ∧ ∃ rA1 : Option Addr, ∃ rN1 : Nat, ∃ rC1 : Nat, w15.cell? ⟨b2, 1, none⟩ = some (.slice rA1 rN1 rC1) ∧ 
 R (.agg #[.int .i64 r1, .slice rA1 rN1 rC1]) w15)) ∧
 (newBlk w4 (.cells #[.int .i64 t9, .int .i64 t91, .int .i64 t92, .int .u8 t93, .int .u8 t94] 34 (0, 0)) fun b6 w16 =>
 S w16 ∧ newBlk w16 (.cells #[] 34 (0, 0)) fun b7 w17 =>
 S w17 ∧ ∃ t8A2 : Option Addr, ∃ t8N2 : Nat, ∃ t8C2 : Nat, ∃ w18 : World, (Builtin.append_ #[22, 22] 22 #[.slice (some ⟨b7, 0, none⟩) 0 0, .slice t7A t7N t7C]).run Try.prog w17 = .ok (.slice t8A2 t8N2 t8C2) w18 ∧
 S w18 ∧ ∃ t11A2 : Option Addr, ∃ t11N2 : Nat, ∃ t11C2 : Nat, ∃ w19 : World, (Builtin.append_ #[22, 22] 22 #[.slice t8A2 t8N2 t8C2, .slice (some ⟨b6, 0, none⟩) 1 1]).run Try.prog w18 = .ok (.slice t11A2 t11N2 t11C2) w19 ∧
 storeC w19 b 1 [.slice t11A2 t11N2 t11C2] fun w20 =>
 ∃ t132 : Int, w20.cell? ⟨b, 0, none⟩ = some (.int .i64 t132) ∧ ∃ t13A2 : Option Addr, ∃ t13N2 : Nat, ∃ t13C2 : Nat, w20.cell? ⟨b, 1, none⟩ = some (.slice t13A2 t13N2 t13C2) ∧ 
 storeC w20 b2 0 [.int .i64 t132, .slice t13A2 t13N2 t13C2] fun w21 =>
 ∃ r2 : Int, w21.cell? ⟨b2, 0, none⟩ = some (.int .i64 r2) ∧ ∃ rA2 : Option Addr, ∃ rN2 : Nat, ∃ rC2 : Nat, w21.cell? ⟨b2, 1, none⟩ = some (.slice rA2 rN2 rC2) ∧ 
 R (.agg #[.int .i64 r2, .slice rA2 rN2 rC2]) w21)

theorem purlinref18_Add.vc (l : Int) (lA : Option Addr) (lN : Nat) (lC : Nat) (x : Int) (x1 : Int) (x2 : Int) (x3 : Int) (x4 : Int) (w : World) (R : Value → World → Prop) : fnVC Try.prog purlinref18_Add.A Try.f16 [.agg #[.int .i64 l, .slice lA lN lC], .agg #[.int .i64 x, .int .i64 x1, .int .i64 x2, .int .u8 x3, .int .u8 x4]] w R = purlinref18_Add.F l lA lN lC x x1 x2 x3 x4 w R := by kernel_rfl
theorem purlinref18_Add.calls (l : Int) (lA : Option Addr) (lN : Nat) (lC : Nat) (x : Int) (x1 : Int) (x2 : Int) (x3 : Int) (x4 : Int) (w : World) (R : Value → World → Prop) (h : purlinref18_Add.F l lA lN lC x x1 x2 x3 x4 w R) : Calls Try.prog 16 #[.agg #[.int .i64 l, .slice lA lN lC], .agg #[.int .i64 x, .int .i64 x1, .int .i64 x2, .int .u8 x3, .int .u8 x4]] w (Ret R) :=
  calls_of_vc mixed Try.func16 (Eq.mpr (purlinref18_Add.vc l lA lN lC x x1 x2 x3 x4 w R) h)

/-! ### purlin/purlinref18.Dropped: function 21 -/
def purlinref18_Dropped.A : Ann where
  sched := fun i => match i with
    | _ => none
  loop := fun i => match i with
    | _ => none

def purlinref18_Dropped.F (l : Int) (lA : Option Addr) (lN : Nat) (lC : Nat) (w : World) (R : Value → World → Prop) : Prop :=
 newBlk w (.cells #[.int .i64 l, .slice lA lN lC] 28 (0, 0)) fun b w1 =>
 ∃ t4A : Option Addr, ∃ t4N : Nat, ∃ t4C : Nat, w1.cell? ⟨b, 1, none⟩ = some (.slice t4A t4N t4C) ∧
 ∃ t7 : Int, w1.cell? ⟨b, 0, none⟩ = some (.int .i64 t7) ∧
 br (decide (((t4N : Nat) : Int) ≤ t7)) (
 R (.int .i64 0) w1) (
 ∃ t10A : Option Addr, ∃ t10N : Nat, ∃ t10C : Nat, w1.cell? ⟨b, 1, none⟩ = some (.slice t10A t10N t10C) ∧
 ∃ t13 : Int, w1.cell? ⟨b, 0, none⟩ = some (.int .i64 t13) ∧
 R (.int .i64 (IntKind.wrap .i64 (((t10N : Nat) : Int) - t13))) w1)

theorem purlinref18_Dropped.vc (l : Int) (lA : Option Addr) (lN : Nat) (lC : Nat) (w : World) (R : Value → World → Prop) : fnVC Try.prog purlinref18_Dropped.A Try.f21 [.agg #[.int .i64 l, .slice lA lN lC]] w R = purlinref18_Dropped.F l lA lN lC w R := by kernel_rfl
theorem purlinref18_Dropped.calls (l : Int) (lA : Option Addr) (lN : Nat) (lC : Nat) (w : World) (R : Value → World → Prop) (h : purlinref18_Dropped.F l lA lN lC w R) : Calls Try.prog 21 #[.agg #[.int .i64 l, .slice lA lN lC]] w (Ret R) :=
  calls_of_vc mixed Try.func21 (Eq.mpr (purlinref18_Dropped.vc l lA lN lC w R) h)

/-! ### purlin/purlinref18.List: function 19 -/
def purlinref18_List.A : Ann where
  sched := fun i => match i with
    | 1 => some ((some 0), .still 2 false 3 <| .still 0 true 12 <| .still 1 true 13 <| .eff 3 <| .still 4 false 15 <| .still 5 false 31 <| .done)
    | _ => none
  loop := fun i => match i with
    | _ => none

def purlinref18_List.F (l : Int) (lA : Option Addr) (lN : Nat) (lC : Nat) (w : World) (R : Value → World → Prop) : Prop :=
 newBlk w (.cells #[.int .i64 l, .slice lA lN lC] 28 (0, 0)) fun b w1 =>
 ∃ S : World → Prop, S w1.drew ∧ drawC w1 fun w2 =>
 ∃ t5 : Int, w2.cell? ⟨b, 0, none⟩ = some (.int .i64 t5) ∧ ∃ t5A : Option Addr, ∃ t5N : Nat, ∃ t5C : Nat, w2.cell? ⟨b, 1, none⟩ = some (.slice t5A t5N t5C) ∧ 
 ∃ t4A : Option Addr, ∃ t4N : Nat, ∃ t4C : Nat, (∀ w9 : World, S w9 → w9.cell? ⟨b, 1, none⟩ = some (.slice t4A t4N t4C)) ∧
 Calls Try.prog 21 #[.agg #[.int .i64 t5, .slice t5A t5N t5C]] w2 (fun e w3 => ∃ t6 : Int, e = .returned (.int .i64 t6) ∧
 S w3 ∧ 0 ≤ t6 ∧ t6 ≤ ((t4N : Nat) : Int) ∧
 R (.slice (cutBase t4A t6.toNat t4C 5) (t4N - t6.toNat) (t4C - t6.toNat)) w3)

theorem purlinref18_List.vc (l : Int) (lA : Option Addr) (lN : Nat) (lC : Nat) (w : World) (R : Value → World → Prop) : fnVC Try.prog purlinref18_List.A Try.f19 [.agg #[.int .i64 l, .slice lA lN lC]] w R = purlinref18_List.F l lA lN lC w R := by kernel_rfl
theorem purlinref18_List.calls (l : Int) (lA : Option Addr) (lN : Nat) (lC : Nat) (w : World) (R : Value → World → Prop) (h : purlinref18_List.F l lA lN lC w R) : Calls Try.prog 19 #[.agg #[.int .i64 l, .slice lA lN lC]] w (Ret R) :=
  calls_of_vc mixed Try.func19 (Eq.mpr (purlinref18_List.vc l lA lN lC w R) h)

/-! ### purlin/purlinref18.Of: function 23 -/
def purlinref18_Of.A : Ann where
  sched := fun i => match i with
    | _ => none
  loop := fun i => match i with
    | 3 => some [(5, some (.one (.slice))), (6, some (.one (.int .i64))), (10, none), (11, none), (12, none), (13, none), (14, none), (15, none), (16, none), (17, none), (18, none), (19, none), (20, none), (21, none), (22, none), (23, none), (24, none), (25, none), (26, none), (27, none), (28, none), (29, none), (30, none), (31, none), (32, none)]
    | _ => none

def purlinref18_Of.L0 (part : Int) (R : Value → World → Prop) (b : Nat) (outA : Option Addr) (outN : Nat) (outC : Nat) (i : Int) (w4 : World) (Nx0 : Option Addr → Nat → Nat → Int → World → Prop) : Prop :=
 ∃ t12A : Option Addr, ∃ t12N : Nat, ∃ t12C : Nat, w4.cell? ⟨b, 1, none⟩ = some (.slice t12A t12N t12C) ∧
 br (decide (i < ((t12N : Nat) : Int))) (
 ∃ t18A : Option Addr, ∃ t18N : Nat, ∃ t18C : Nat, w4.cell? ⟨b, 1, none⟩ = some (.slice t18A t18N t18C) ∧
 0 ≤ (i : Int) ∧ i < ((t18N : Nat) : Int) ∧ okP t18A (
 ∃ t22 : Int, w4.cell? ⟨(pb t18A), po t18A + i.toNat * 5 + 1, none⟩ = some (.int .i64 t22) ∧
 br (t22 == part) (
 ∃ t27A : Option Addr, ∃ t27N : Nat, ∃ t27C : Nat, w4.cell? ⟨b, 1, none⟩ = some (.slice t27A t27N t27C) ∧
 0 ≤ (i : Int) ∧ i < ((t27N : Nat) : Int) ∧ okP t27A (
 ∃ t30 : Int, w4.cell? ⟨(pb t27A), po t27A + i.toNat * 5, none⟩ = some (.int .i64 t30) ∧ ∃ t301 : Int, w4.cell? ⟨(pb t27A), po t27A + i.toNat * 5 + 1, none⟩ = some (.int .i64 t301) ∧ ∃ t302 : Int, w4.cell? ⟨(pb t27A), po t27A + i.toNat * 5 + 2, none⟩ = some (.int .i64 t302) ∧ ∃ t303 : Int, w4.cell? ⟨(pb t27A), po t27A + i.toNat * 5 + 3, none⟩ = some (.int .u8 t303) ∧ ∃ t304 : Int, w4.cell? ⟨(pb t27A), po t27A + i.toNat * 5 + 4, none⟩ = some (.int .u8 t304) ∧ 
 newBlk w4 (.cells #[.int .i64 t30, .int .i64 t301, .int .i64 t302, .int .u8 t303, .int .u8 t304] 34 (0, 0)) fun b2 w5 =>
 ∃ t32A : Option Addr, ∃ t32N : Nat, ∃ t32C : Nat, ∃ w6 : World, (Builtin.append_ #[22, 22] 22 #[.slice outA outN outC, .slice (some ⟨b2, 0, none⟩) 1 1]).run Try.prog w5 = .ok (.slice t32A t32N t32C) w6 ∧
 Nx0 t32A t32N t32C (IntKind.wrap .i64 (i + 1)) w6)) (
 Nx0 outA outN outC (IntKind.wrap .i64 (i + 1)) w4))) (
 R (.slice outA outN outC) w4)

def purlinref18_Of.F (l : Int) (lA : Option Addr) (lN : Nat) (lC : Nat) (part : Int) (w : World) (R : Value → World → Prop) : Prop :=
 newBlk w (.cells #[.int .i64 l, .slice lA lN lC] 28 (0, 0)) fun b w1 =>
 newBlk w1 (.cells #[] 34 (0, 0)) fun b1 w2 =>
 ∃ t8 : Int, w2.cell? ⟨b, 0, none⟩ = some (.int .i64 t8) ∧ ∃ t8A : Option Addr, ∃ t8N : Nat, ∃ t8C : Nat, w2.cell? ⟨b, 1, none⟩ = some (.slice t8A t8N t8C) ∧ 
 Calls Try.prog 21 #[.agg #[.int .i64 t8, .slice t8A t8N t8C]] w2 (fun e w3 => ∃ t9 : Int, e = .returned (.int .i64 t9) ∧
 ∃ I : Nat → Option Addr → Nat → Nat → Int → World → Prop, (∃ n, I n (some ⟨b1, 0, none⟩) 0 0 t9 w3) ∧ ∀ (n9 : Nat) (dead : Nat → Value) (w4 : World) (outA : Option Addr) (outN : Nat) (outC : Nat) (i : Int), I n9 outA outN outC i w4 →
 purlinref18_Of.L0 part R b outA outN outC i w4 (fun x0 x1 x2 x3 w9 => ∃ m, m < n9 ∧ I m x0 x1 x2 x3 w9))

theorem purlinref18_Of.vc (l : Int) (lA : Option Addr) (lN : Nat) (lC : Nat) (part : Int) (w : World) (R : Value → World → Prop) : fnVC Try.prog purlinref18_Of.A Try.f23 [.agg #[.int .i64 l, .slice lA lN lC], .int .i64 part] w R = purlinref18_Of.F l lA lN lC part w R := by kernel_rfl
theorem purlinref18_Of.calls (l : Int) (lA : Option Addr) (lN : Nat) (lC : Nat) (part : Int) (w : World) (R : Value → World → Prop) (h : purlinref18_Of.F l lA lN lC part w R) : Calls Try.prog 23 #[.agg #[.int .i64 l, .slice lA lN lC], .int .i64 part] w (Ret R) :=
  calls_of_vc mixed Try.func23 (Eq.mpr (purlinref18_Of.vc l lA lN lC part w R) h)

/-! ### purlin/purlinref18.Act: function 25 -/
def purlinref18_Act.A : Ann where
  sched := fun i => match i with
    | _ => none
  loop := fun i => match i with
    | _ => none

def purlinref18_Act.F (acts : Int) (acts1 : Int) (acts2 : Int) (kind : Int) (w : World) (R : Value → World → Prop) : Prop :=
 newBlk w (.cells #[.int .u8 acts, .int .u8 acts1, .int .u8 acts2] 45 (0, 0)) fun b w1 =>
 br (decide (kind < 0)) (
 R (.tuple #[.bool false, .bool false, .bool false, .int .i64 181]) w1) (
 br (decide (kind > 2)) (
 R (.tuple #[.bool false, .bool false, .bool false, .int .i64 181]) w1) (
 0 ≤ (kind : Int) ∧ kind < (3 : Int) ∧ ∃ t17 : Int, w1.cell? ⟨b, 0 + kind.toNat * 1, none⟩ = some (.int .u8 t17) ∧
 R (.tuple #[.bool true, .bool (decide (t17 > 0)), .bool (decide (t17 > 1)), .int .i64 0]) w1))

theorem purlinref18_Act.vc (acts : Int) (acts1 : Int) (acts2 : Int) (kind : Int) (w : World) (R : Value → World → Prop) : fnVC Try.prog purlinref18_Act.A Try.f25 [.agg #[.int .u8 acts, .int .u8 acts1, .int .u8 acts2], .int .i64 kind] w R = purlinref18_Act.F acts acts1 acts2 kind w R := by kernel_rfl
theorem purlinref18_Act.calls (acts : Int) (acts1 : Int) (acts2 : Int) (kind : Int) (w : World) (R : Value → World → Prop) (h : purlinref18_Act.F acts acts1 acts2 kind w R) : Calls Try.prog 25 #[.agg #[.int .u8 acts, .int .u8 acts1, .int .u8 acts2], .int .i64 kind] w (Ret R) :=
  calls_of_vc mixed Try.func25 (Eq.mpr (purlinref18_Act.vc acts acts1 acts2 kind w R) h)

/-! ### purlin/purlinref18.Same: function 17 -/
def purlinref18_Same.A : Ann where
  sched := fun i => match i with
    | 6 => some (none, .still 0 false 242 <| .still 1 false 241 <| .still 2 false 243 <| .still 3 false 247 <| .still 4 false 47 <| .still 5 false 31 <| .still 6 false 63 <| .still 7 false 127 <| .still 8 false 255 <| .done)
    | _ => none
  loop := fun i => match i with
    | 4 => some [(4, none), (5, some (.one (.int .i64))), (11, none), (12, none), (13, none), (14, none), (15, none), (16, none), (17, none), (18, none), (19, none), (20, none), (21, none), (22, none), (23, none), (24, none), (25, none)]
    | _ => none

def purlinref18_Same.L0 (aA : Option Addr) (aN : Nat) (bA : Option Addr) (bN : Nat) (R : Value → World → Prop) (i : Int) (w1 : World) (Nx0 : Int → World → Prop) : Prop :=
 br (decide (i < ((aN : Nat) : Int))) (
 drawC w1 fun w2 =>
 0 ≤ (i : Int) ∧ i < ((aN : Nat) : Int) ∧ okP aA (
 ∃ t20 : Int, w2.cell? ⟨(pb aA), po aA + i.toNat * 5, none⟩ = some (.int .i64 t20) ∧ ∃ t201 : Int, w2.cell? ⟨(pb aA), po aA + i.toNat * 5 + 1, none⟩ = some (.int .i64 t201) ∧ ∃ t202 : Int, w2.cell? ⟨(pb aA), po aA + i.toNat * 5 + 2, none⟩ = some (.int .i64 t202) ∧ ∃ t203 : Int, w2.cell? ⟨(pb aA), po aA + i.toNat * 5 + 3, none⟩ = some (.int .u8 t203) ∧ ∃ t204 : Int, w2.cell? ⟨(pb aA), po aA + i.toNat * 5 + 4, none⟩ = some (.int .u8 t204) ∧ 
 0 ≤ (i : Int) ∧ i < ((bN : Nat) : Int) ∧ okP bA (
 ∃ t24 : Int, w2.cell? ⟨(pb bA), po bA + i.toNat * 5, none⟩ = some (.int .i64 t24) ∧ ∃ t241 : Int, w2.cell? ⟨(pb bA), po bA + i.toNat * 5 + 1, none⟩ = some (.int .i64 t241) ∧ ∃ t242 : Int, w2.cell? ⟨(pb bA), po bA + i.toNat * 5 + 2, none⟩ = some (.int .i64 t242) ∧ ∃ t243 : Int, w2.cell? ⟨(pb bA), po bA + i.toNat * 5 + 3, none⟩ = some (.int .u8 t243) ∧ ∃ t244 : Int, w2.cell? ⟨(pb bA), po bA + i.toNat * 5 + 4, none⟩ = some (.int .u8 t244) ∧ 
 ∃ q : Bool, (eqRun .neq 34 (.tmp 20) (.tmp 24) (.agg #[.int .i64 t20, .int .i64 t201, .int .i64 t202, .int .u8 t203, .int .u8 t204]) (.agg #[.int .i64 t24, .int .i64 t241, .int .i64 t242, .int .u8 t243, .int .u8 t244])).run Try.prog w2 = .ok (.bool q) w2 ∧
 br q (
 R (.bool false) w2) (
 Nx0 (IntKind.wrap .i64 (i + 1)) w2)))) (
 R (.bool true) w1)

def purlinref18_Same.F (aA : Option Addr) (aN : Nat) (aC : Nat) (bA : Option Addr) (bN : Nat) (bC : Nat) (w : World) (R : Value → World → Prop) : Prop :=
 br (((aN : Nat) : Int) != ((bN : Nat) : Int)) (
 R (.bool false) w) (
 ∃ I : Nat → Int → World → Prop, (∃ n, I n 0 w) ∧ ∀ (n9 : Nat) (dead : Nat → Value) (w1 : World) (i : Int), I n9 i w1 →
 purlinref18_Same.L0 aA aN bA bN R i w1 (fun x0 w9 => ∃ m, m < n9 ∧ I m x0 w9))

theorem purlinref18_Same.vc (aA : Option Addr) (aN : Nat) (aC : Nat) (bA : Option Addr) (bN : Nat) (bC : Nat) (w : World) (R : Value → World → Prop) : fnVC Try.prog purlinref18_Same.A Try.f17 [.slice aA aN aC, .slice bA bN bC] w R = purlinref18_Same.F aA aN aC bA bN bC w R := by kernel_rfl
theorem purlinref18_Same.calls (aA : Option Addr) (aN : Nat) (aC : Nat) (bA : Option Addr) (bN : Nat) (bC : Nat) (w : World) (R : Value → World → Prop) (h : purlinref18_Same.F aA aN aC bA bN bC w R) : Calls Try.prog 17 #[.slice aA aN aC, .slice bA bN bC] w (Ret R) :=
  calls_of_vc mixed Try.func17 (Eq.mpr (purlinref18_Same.vc aA aN aC bA bN bC w R) h)

end Go.Proofs.Ytgkbokhmmoemfaa
