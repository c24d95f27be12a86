/- Printed by vcgen.py: of each function of this text its weakest precondition as a formula, and that it is one. Conditions: none. -/
import Derived.Test.YtecacohkkdhphaaVcCode
import Derived.Test.YtecacohkkdhphaaVcMem
import Derived.Test.YtecacohkkdhphaaChecked
namespace Go.Proofs.Ytecacohkkdhphaa
open Go.Vc
set_option linter.unusedVariables false
set_option maxRecDepth 100000

/-! ### purlin/purlinlaw17.who: function 56 -/
def purlinlaw17_who.A : Ann where
  sched := fun i => match i with
    | _ => none
  loop := fun i => match i with
    | _ => none

def purlinlaw17_who.F (tB : Nat) (tO : Nat) (w : World) (R : Value → World → Prop) : Prop :=
 Calls Try.prog 26 #[.pointer (some ⟨tB, tO, none⟩)] w (fun e w1 => ∃ t7 : Int, ∃ t71 : Bool, e = .returned (.tuple #[.int .i64 t7, .bool t71]) ∧
 br (!t71) (
 R (.int .i64 (-1)) w1) (
 R (.int .i64 t7) w1))

theorem purlinlaw17_who.vc (tB : Nat) (tO : Nat) (w : World) (R : Value → World → Prop) : fnVC Try.prog purlinlaw17_who.A Try.f56 [.pointer (some ⟨tB, tO, none⟩)] w R = purlinlaw17_who.F tB tO w R := by kernel_rfl
theorem purlinlaw17_who.calls (tB : Nat) (tO : Nat) (w : World) (R : Value → World → Prop) (h : purlinlaw17_who.F tB tO w R) : Calls Try.prog 56 #[.pointer (some ⟨tB, tO, none⟩)] w (Ret R) :=
  calls_of_vc mixed Try.func56 (Eq.mpr (purlinlaw17_who.vc tB tO w R) h)

/-! ### purlin/purlinlaw17.awake: function 22 -/
def purlinlaw17_awake.A : Ann where
  sched := fun i => match i with
    | _ => none
  loop := fun i => match i with
    | _ => none

def purlinlaw17_awake.F (w : World) (R : Value → World → Prop) : Prop :=
 newBlk w (.cells #[.int .u8 5, .int .u8 5, .int .u8 9] 5 (0, 0)) fun b w1 =>
 Calls Try.prog 20 #[.slice (some ⟨b, 0, none⟩) 3 3] w1 (fun e w2 => ∃ t19P : Option Addr, ∃ t19 : Int, e = .returned (.tuple #[.pointer t19P, .int .i64 t19]) ∧
 br (t19 != 0) (
 R (.bool false) w2) (
 br ((t19P : Option Addr).isNone) (
 R (.bool false) w2) (
 Calls Try.prog 55 #[.pointer t19P, .int .i64 0] w2 (fun e w3 => ∃ t29 : Int, e = .returned (.int .i64 t29) ∧
 Calls Try.prog 55 #[.pointer t19P, .int .i64 1] w3 (fun e w4 => ∃ t31 : Int, e = .returned (.int .i64 t31) ∧
 Calls Try.prog 56 #[.pointer t19P] w4 (fun e w5 => ∃ t33 : Int, e = .returned (.int .i64 t33) ∧
 Calls Try.prog 55 #[.pointer t19P, .int .i64 2] w5 (fun e w6 => ∃ t35 : Int, e = .returned (.int .i64 t35) ∧
 Calls Try.prog 56 #[.pointer t19P] w6 (fun e w7 => ∃ t37 : Int, e = .returned (.int .i64 t37) ∧
 Calls Try.prog 57 #[.pointer t19P, .int .i64 2] w7 (fun e w8 => ∃ t39 : Int, e = .returned (.int .i64 t39) ∧
 Calls Try.prog 56 #[.pointer t19P] w8 (fun e w9 => ∃ t41 : Int, e = .returned (.int .i64 t41) ∧
 Calls Try.prog 33 #[.pointer t19P, .int .i64 0] w9 (fun e w10 => ∃ t43 : Int, e = .returned (.int .i64 t43) ∧
 Calls Try.prog 56 #[.pointer t19P] w10 (fun e w11 => ∃ t45 : Int, e = .returned (.int .i64 t45) ∧
 Calls Try.prog 58 #[.pointer t19P, .int .i64 2] w11 (fun e w12 => ∃ t47 : Int, e = .returned (.int .i64 t47) ∧
 Calls Try.prog 56 #[.pointer t19P] w12 (fun e w13 => ∃ t49 : Int, e = .returned (.int .i64 t49) ∧
 Calls Try.prog 59 #[.pointer t19P, .int .i64 2] w13 (fun e w14 => ∃ t51 : Int, e = .returned (.int .i64 t51) ∧
 Calls Try.prog 56 #[.pointer t19P] w14 (fun e w15 => ∃ t53 : Int, e = .returned (.int .i64 t53) ∧
 Calls Try.prog 60 #[.pointer t19P, .int .i64 1] w15 (fun e w16 => ∃ t55 : Int, e = .returned (.int .i64 t55) ∧
 br (t29 == 0) (
 br (t31 == 0) (
 br (t33 == 0) (
 br (t35 == 0) (
 br (t37 == 2) (
 br (t39 == 0) (
 br (t41 == 0) (
 br (t43 == 0) (
 br (t45 == 1) (
 br (t47 == 0) (
 br (t49 == 2) (
 br (t51 == 0) (
 br (t53 == 1) (
 br (t55 == 0) (
 Calls Try.prog 56 #[.pointer t19P] w16 (fun e w17 => ∃ t112 : Int, e = .returned (.int .i64 t112) ∧
 br (t112 == 0) (
 Calls Try.prog 58 #[.pointer t19P, .int .i64 0] w17 (fun e w18 => ∃ t117 : Int, e = .returned (.int .i64 t117) ∧
 br (t117 == 171) (
 Calls Try.prog 28 #[.pointer t19P] w18 (fun e w19 => ∃ t122 : Int, e = .returned (.int .i64 t122) ∧
 R (.bool (t122 == 3)) w19)) (
 R (.bool false) w18))) (
 R (.bool false) w17))) (
 R (.bool false) w16)) (
 R (.bool false) w16)) (
 R (.bool false) w16)) (
 R (.bool false) w16)) (
 R (.bool false) w16)) (
 R (.bool false) w16)) (
 R (.bool false) w16)) (
 R (.bool false) w16)) (
 R (.bool false) w16)) (
 R (.bool false) w16)) (
 R (.bool false) w16)) (
 R (.bool false) w16)) (
 R (.bool false) w16)) (
 R (.bool false) w16))))))))))))))))))

theorem purlinlaw17_awake.vc (w : World) (R : Value → World → Prop) : fnVC Try.prog purlinlaw17_awake.A Try.f22 [] w R = purlinlaw17_awake.F w R := by kernel_rfl
theorem purlinlaw17_awake.calls (w : World) (R : Value → World → Prop) (h : purlinlaw17_awake.F w R) : Calls Try.prog 22 #[] w (Ret R) :=
  calls_of_vc mixed Try.func22 (Eq.mpr (purlinlaw17_awake.vc w R) h)

/-! ### purlin/purlinlaw17.do: function 25 -/
def purlinlaw17_do.A : Ann where
  sched := fun i => match i with
    | _ => none
  loop := fun i => match i with
    | _ => none

def purlinlaw17_do.F (tB : Nat) (tO : Nat) (c : Int) (c1 : Int) (c2 : Int) (w : World) (R : Value → World → Prop) : Prop :=
 newBlk w (.cells #[.int .i64 c, .int .i64 c1, .int .i64 c2] 46 (0, 0)) fun b w1 =>
 ∃ t6 : Int, w1.cell? ⟨b, 0, none⟩ = some (.int .i64 t6) ∧
 br (t6 == 0) (
 ∃ t11 : Int, w1.cell? ⟨b, 1, none⟩ = some (.int .i64 t11) ∧
 Calls Try.prog 55 #[.pointer (some ⟨tB, tO, none⟩), .int .i64 t11] w1 (fun e w2 => ∃ t12 : Int, e = .returned (.int .i64 t12) ∧
 R (.int .i64 t12) w2)) (
 br (t6 == 1) (
 ∃ t17 : Int, w1.cell? ⟨b, 1, none⟩ = some (.int .i64 t17) ∧
 Calls Try.prog 59 #[.pointer (some ⟨tB, tO, none⟩), .int .i64 t17] w1 (fun e w3 => ∃ t18 : Int, e = .returned (.int .i64 t18) ∧
 R (.int .i64 t18) w3)) (
 br (t6 == 2) (
 ∃ t23 : Int, w1.cell? ⟨b, 1, none⟩ = some (.int .i64 t23) ∧
 Calls Try.prog 57 #[.pointer (some ⟨tB, tO, none⟩), .int .i64 t23] w1 (fun e w4 => ∃ t24 : Int, e = .returned (.int .i64 t24) ∧
 R (.int .i64 t24) w4)) (
 br (t6 == 3) (
 ∃ t29 : Int, w1.cell? ⟨b, 1, none⟩ = some (.int .i64 t29) ∧
 Calls Try.prog 58 #[.pointer (some ⟨tB, tO, none⟩), .int .i64 t29] w1 (fun e w5 => ∃ t30 : Int, e = .returned (.int .i64 t30) ∧
 R (.int .i64 t30) w5)) (
 br (t6 == 4) (
 ∃ t35 : Int, w1.cell? ⟨b, 1, none⟩ = some (.int .i64 t35) ∧
 Calls Try.prog 60 #[.pointer (some ⟨tB, tO, none⟩), .int .i64 t35] w1 (fun e w6 => ∃ t36 : Int, e = .returned (.int .i64 t36) ∧
 R (.int .i64 t36) w6)) (
 br (t6 == 5) (
 ∃ t41 : Int, w1.cell? ⟨b, 1, none⟩ = some (.int .i64 t41) ∧
 Calls Try.prog 61 #[.pointer (some ⟨tB, tO, none⟩), .int .i64 t41] w1 (fun e w7 => ∃ t42 : Int, e = .returned (.int .i64 t42) ∧
 R (.int .i64 t42) w7)) (
 br (t6 == 6) (
 ∃ t47 : Int, w1.cell? ⟨b, 1, none⟩ = some (.int .i64 t47) ∧
 ∃ t49 : Int, w1.cell? ⟨b, 2, none⟩ = some (.int .i64 t49) ∧
 Calls Try.prog 62 #[.pointer (some ⟨tB, tO, none⟩), .int .i64 t47, .int .i64 t49] w1 (fun e w8 => ∃ t50 : Int, e = .returned (.int .i64 t50) ∧
 R (.int .i64 t50) w8)) (
 br (t6 == 7) (
 ∃ t55 : Int, w1.cell? ⟨b, 1, none⟩ = some (.int .i64 t55) ∧
 Calls Try.prog 33 #[.pointer (some ⟨tB, tO, none⟩), .int .i64 t55] w1 (fun e w9 => ∃ t56 : Int, e = .returned (.int .i64 t56) ∧
 R (.int .i64 t56) w9)) (
 Calls Try.prog 34 #[.pointer (some ⟨tB, tO, none⟩)] w1 (fun e w10 => e = .returned (.tuple #[]) ∧
 R (.int .i64 0) w10)))))))))

theorem purlinlaw17_do.vc (tB : Nat) (tO : Nat) (c : Int) (c1 : Int) (c2 : Int) (w : World) (R : Value → World → Prop) : fnVC Try.prog purlinlaw17_do.A Try.f25 [.pointer (some ⟨tB, tO, none⟩), .agg #[.int .i64 c, .int .i64 c1, .int .i64 c2]] w R = purlinlaw17_do.F tB tO c c1 c2 w R := by kernel_rfl
theorem purlinlaw17_do.calls (tB : Nat) (tO : Nat) (c : Int) (c1 : Int) (c2 : Int) (w : World) (R : Value → World → Prop) (h : purlinlaw17_do.F tB tO c c1 c2 w R) : Calls Try.prog 25 #[.pointer (some ⟨tB, tO, none⟩), .agg #[.int .i64 c, .int .i64 c1, .int .i64 c2]] w (Ret R) :=
  calls_of_vc mixed Try.func25 (Eq.mpr (purlinlaw17_do.vc tB tO c c1 c2 w R) h)

/-! ### purlin/purlinlaw17.call: function 23 -/
def purlinlaw17_call.A : Ann where
  sched := fun i => match i with
    | _ => none
  loop := fun i => match i with
    | _ => none

def purlinlaw17_call.K0 (R : Value → World → Prop) (b : Nat) (b1 : Nat) (w4 : World) : Prop :=
 ∃ t12 : Int, w4.cell? ⟨b, 0, none⟩ = some (.int .i64 t12) ∧ ∃ t121 : Int, w4.cell? ⟨b, 1, none⟩ = some (.int .i64 t121) ∧ ∃ t122 : Int, w4.cell? ⟨b, 2, none⟩ = some (.int .i64 t122) ∧ 
 storeC w4 b1 0 [.int .i64 t12, .int .i64 t121, .int .i64 t122] fun w5 =>
 ∃ r : Int, w5.cell? ⟨b1, 0, none⟩ = some (.int .i64 r) ∧ ∃ r1 : Int, w5.cell? ⟨b1, 1, none⟩ = some (.int .i64 r1) ∧ ∃ r2 : Int, w5.cell? ⟨b1, 2, none⟩ = some (.int .i64 r2) ∧ 
 R (.agg #[.int .i64 r, .int .i64 r1, .int .i64 r2]) w5

def purlinlaw17_call.F (c : Int) (c1 : Int) (c2 : Int) (w : World) (R : Value → World → Prop) : Prop :=
 newBlk w (.cells #[.int .i64 c, .int .i64 c1, .int .i64 c2] 46 (0, 0)) fun b w1 =>
 newBlk w1 (.cells #[.int .i64 0, .int .i64 0, .int .i64 0] 46 (0, 0)) fun b1 w2 =>
 ∃ t4 : Int, w2.cell? ⟨b, 0, none⟩ = some (.int .i64 t4) ∧
 br (decide (t4 < 0)) (
 storeC w2 b 0 [.int .i64 8] fun w3 =>
 purlinlaw17_call.K0 R b b1 w3) (
 ∃ t8 : Int, w2.cell? ⟨b, 0, none⟩ = some (.int .i64 t8) ∧
 br (decide (t8 > 7)) (
 storeC w2 b 0 [.int .i64 8] fun w6 =>
 purlinlaw17_call.K0 R b b1 w6) (
 purlinlaw17_call.K0 R b b1 w2))

theorem purlinlaw17_call.vc (c : Int) (c1 : Int) (c2 : Int) (w : World) (R : Value → World → Prop) : fnVC Try.prog purlinlaw17_call.A Try.f23 [.agg #[.int .i64 c, .int .i64 c1, .int .i64 c2]] w R = purlinlaw17_call.F c c1 c2 w R := by kernel_rfl
theorem purlinlaw17_call.calls (c : Int) (c1 : Int) (c2 : Int) (w : World) (R : Value → World → Prop) (h : purlinlaw17_call.F c c1 c2 w R) : Calls Try.prog 23 #[.agg #[.int .i64 c, .int .i64 c1, .int .i64 c2]] w (Ret R) :=
  calls_of_vc mixed Try.func23 (Eq.mpr (purlinlaw17_call.vc c c1 c2 w R) h)

end Go.Proofs.Ytecacohkkdhphaa
