/- Printed by vcgen.py: of each function of this text its weakest precondition as a formula, and that it is one. Conditions: none. -/
import Derived.Test.YtgkbokhmmoemfaaVcCode
import Derived.Test.YtgkbokhmmoemfaaVcMem
import Derived.Test.YtgkbokhmmoemfaaChecked
namespace Go.Proofs.Ytgkbokhmmoemfaa
open Go.Vc
set_option linter.unusedVariables false
set_option maxRecDepth 100000

/-! ### purlin/purlinlaw14.awake: function 27 -/
def purlinlaw14_awake.A : Ann where
  sched := fun i => match i with
    | _ => none
  loop := fun i => match i with
    | _ => none

def purlinlaw14_awake.F (w : World) (R : Value → World → Prop) : Prop :=
 Calls Try.prog 26 #[] w (fun e w1 => ∃ t17P : Option Addr, e = .returned (.pointer t17P) ∧
 br ((t17P : Option Addr).isNone) (
 R (.bool false) w1) (
 Calls Try.prog 28 #[.pointer t17P, .int .i64 1, .int .i64 5, .int .i64 (-1)] w1 (fun e w2 => ∃ t21 : Int, e = .returned (.int .i64 t21) ∧
 Calls Try.prog 28 #[.pointer t17P, .int .i64 2, .int .i64 9, .int .i64 20] w2 (fun e w3 => ∃ t23 : Int, e = .returned (.int .i64 t23) ∧
 Calls Try.prog 28 #[.pointer t17P, .int .i64 3, .int .i64 5, .int .i64 10] w3 (fun e w4 => ∃ t25 : Int, e = .returned (.int .i64 t25) ∧
 Calls Try.prog 28 #[.pointer t17P, .int .i64 4, .int .i64 9, .int .i64 10] w4 (fun e w5 => ∃ t27 : Int, e = .returned (.int .i64 t27) ∧
 Calls Try.prog 29 #[.pointer t17P] w5 (fun e w6 => ∃ t29A : Option Addr, ∃ t29N : Nat, ∃ t29C : Nat, e = .returned (.slice t29A t29N t29C) ∧
 Calls Try.prog 28 #[.pointer t17P, .int .i64 1, .int .i64 0, .int .i64 5] w6 (fun e w7 => ∃ t31 : Int, e = .returned (.int .i64 t31) ∧
 Calls Try.prog 30 #[.pointer t17P, .int .i64 10] w7 (fun e w8 => ∃ t34A : Option Addr, ∃ t34N : Nat, ∃ t34C : Nat, ∃ t34 : Int, e = .returned (.tuple #[.slice t34A t34N t34C, .int .i64 t34]) ∧
 Calls Try.prog 28 #[.pointer t17P, .int .i64 5, .int .i64 1, .int .i64 10] w8 (fun e w9 => ∃ t38 : Int, e = .returned (.int .i64 t38) ∧
 Calls Try.prog 37 #[.pointer t17P] w9 (fun e w10 => ∃ t41 : Int, ∃ t411 : Bool, e = .returned (.tuple #[.int .i64 t41, .bool t411]) ∧
 Calls Try.prog 37 #[.pointer t17P] w10 (fun e w11 => ∃ t46 : Int, ∃ t461 : Bool, e = .returned (.tuple #[.int .i64 t46, .bool t461]) ∧
 Calls Try.prog 37 #[.pointer t17P] w11 (fun e w12 => ∃ t51 : Int, ∃ t511 : Bool, e = .returned (.tuple #[.int .i64 t51, .bool t511]) ∧
 br (t21 == 0) (
 br (t23 == 0) (
 br (t25 == 0) (
 br (t27 == 0) (
 newBlk w12 (.cells #[.int .i64 2, .int .i64 4, .int .i64 1, .int .i64 3] 3 (0, 0)) fun b w13 =>
 Calls Try.prog 34 #[.slice t29A t29N t29C, .slice (some ⟨b, 0, none⟩) 4 4] w13 (fun e w14 => ∃ t71 : Bool, e = .returned (.bool t71) ∧
 br t71 (
 br (t31 == 141) (
 br (t34 == 0) (
 newBlk w14 (.cells #[.int .i64 4, .int .i64 3] 3 (0, 0)) fun b1 w15 =>
 Calls Try.prog 34 #[.slice t34A t34N t34C, .slice (some ⟨b1, 0, none⟩) 2 2] w15 (fun e w16 => ∃ t84 : Bool, e = .returned (.bool t84) ∧
 br t84 (
 br (t38 == 144) (
 br (t41 == 2) (
 br t411 (
 br (t46 == 1) (
 br t461 (
 br (!t511) (
 Calls Try.prog 35 #[.pointer t17P] w16 (fun e w17 => ∃ t110 : Int, e = .returned (.int .i64 t110) ∧
 R (.bool (t110 == 10)) w17)) (
 R (.bool false) w16)) (
 R (.bool false) w16)) (
 R (.bool false) w16)) (
 R (.bool false) w16)) (
 R (.bool false) w16)) (
 R (.bool false) w16)) (
 R (.bool false) w16))) (
 R (.bool false) w14)) (
 R (.bool false) w14)) (
 R (.bool false) w14))) (
 R (.bool false) w12)) (
 R (.bool false) w12)) (
 R (.bool false) w12)) (
 R (.bool false) w12))))))))))))))

theorem purlinlaw14_awake.vc (w : World) (R : Value → World → Prop) : fnVC Try.prog purlinlaw14_awake.A Try.f27 [] w R = purlinlaw14_awake.F w R := by kernel_rfl
theorem purlinlaw14_awake.calls (w : World) (R : Value → World → Prop) (h : purlinlaw14_awake.F w R) : Calls Try.prog 27 #[] w (Ret R) :=
  calls_of_vc mixed Try.func27 (Eq.mpr (purlinlaw14_awake.vc w R) h)

/-! ### purlin/purlinlaw14.does: function 31 -/
def purlinlaw14_does.A : Ann where
  sched := fun i => match i with
    | 4 => some ((some 0), .still 1 false 765 <| .still 2 false 755 <| .still 3 false 759 <| .still 4 false 719 <| .still 5 false 735 <| .still 6 false 575 <| .still 7 false 639 <| .still 9 true 2559 <| .still 0 true 2046 <| .eff 8 <| .still 10 true 3071 <| .eff 11 <| .still 12 false 4095 <| .done)
    | 11 => some ((some 0), .still 1 false 45 <| .still 2 false 35 <| .still 3 false 39 <| .still 5 true 159 <| .still 0 true 126 <| .eff 4 <| .still 6 true 191 <| .eff 7 <| .still 8 false 255 <| .done)
    | 15 => some ((some 0), .still 1 false 5 <| .still 2 false 3 <| .still 3 false 7 <| .still 4 false 15 <| .still 5 false 95 <| .still 6 false 63 <| .still 0 true 510 <| .eff 7 <| .still 8 true 767 <| .eff 9 <| .still 10 false 1023 <| .done)
    | _ => none
  loop := fun i => match i with
    | _ => none

def purlinlaw14_does.F (lB : Nat) (lO : Nat) (mA : Option Addr) (mN : Nat) (mC : Nat) (m : Int) (c : Int) (c1 : Int) (c2 : Int) (c3 : Int) (w : World) (R : Value → World → Prop) : Prop :=
 newBlk w (.cells #[.slice mA mN mC, .int .i64 m] 65 (0, 0)) fun b w1 =>
 newBlk w1 (.cells #[.int .i64 c, .int .i64 c1, .int .i64 c2, .int .i64 c3] 55 (0, 0)) fun b1 w2 =>
 newBlk w2 (.cells #[.slice none 0 0, .int .i64 0] 65 (0, 0)) fun b2 w3 =>
 ∃ t23 : Int, w3.cell? ⟨b1, 0, none⟩ = some (.int .i64 t23) ∧
 br (t23 == 0) (
 ∃ t27A : Option Addr, ∃ t27N : Nat, ∃ t27C : Nat, w3.cell? ⟨b, 0, none⟩ = some (.slice t27A t27N t27C) ∧ ∃ t27 : Int, w3.cell? ⟨b, 1, none⟩ = some (.int .i64 t27) ∧ 
 ∃ t29 : Int, w3.cell? ⟨b1, 1, none⟩ = some (.int .i64 t29) ∧
 ∃ t31 : Int, w3.cell? ⟨b1, 2, none⟩ = some (.int .i64 t31) ∧
 ∃ t33 : Int, w3.cell? ⟨b1, 3, none⟩ = some (.int .i64 t33) ∧
 Calls Try.prog 49 #[.agg #[.slice t27A t27N t27C, .int .i64 t27], .int .i64 t29, .int .i64 t31, .int .i64 t33] w3 (fun e w4 => ∃ t34A : Option Addr, ∃ t34N : Nat, ∃ t34C : Nat, ∃ t34 : Int, ∃ t341 : Int, e = .returned (.tuple #[.agg #[.slice t34A t34N t34C, .int .i64 t34], .int .i64 t341]) ∧
 newBlk w4 (.cells #[.slice none 0 0, .int .i64 0] 65 (0, 0)) fun b3 w5 =>
 storeC w5 b3 0 [.slice t34A t34N t34C, .int .i64 t34] fun w6 =>
 ∃ S : World → Prop, S w6.drew ∧ drawC w6 fun w7 =>
 ∃ t40 : Int, w7.cell? ⟨b1, 1, none⟩ = some (.int .i64 t40) ∧
 ∃ t42 : Int, w7.cell? ⟨b1, 2, none⟩ = some (.int .i64 t42) ∧
 ∃ t44 : Int, w7.cell? ⟨b1, 3, none⟩ = some (.int .i64 t44) ∧
 ∃ t37A : Option Addr, ∃ t37N : Nat, ∃ t37C : Nat, (∀ w9 : World, S w9 → w9.cell? ⟨b3, 0, none⟩ = some (.slice t37A t37N t37C)) ∧ ∃ t37 : Int, (∀ w9 : World, S w9 → w9.cell? ⟨b3, 1, none⟩ = some (.int .i64 t37)) ∧ 
 Calls Try.prog 28 #[.pointer (some ⟨lB, lO, none⟩), .int .i64 t40, .int .i64 t42, .int .i64 t44] w7 (fun e w8 => ∃ t45 : Int, e = .returned (.int .i64 t45) ∧
 S w8 ∧ storeC w8 b2 0 [.slice t37A t37N t37C, .int .i64 t37] fun w9 =>
 S w9 ∧ ∃ rA : Option Addr, ∃ rN : Nat, ∃ rC : Nat, w9.cell? ⟨b2, 0, none⟩ = some (.slice rA rN rC) ∧ ∃ r : Int, w9.cell? ⟨b2, 1, none⟩ = some (.int .i64 r) ∧ 
 R (.tuple #[.agg #[.slice rA rN rC, .int .i64 r], .bool (t45 == t341)]) w9))) (
 br (t23 == 1) (
 ∃ t51A : Option Addr, ∃ t51N : Nat, ∃ t51C : Nat, w3.cell? ⟨b, 0, none⟩ = some (.slice t51A t51N t51C) ∧ ∃ t51 : Int, w3.cell? ⟨b, 1, none⟩ = some (.int .i64 t51) ∧ 
 Calls Try.prog 50 #[.agg #[.slice t51A t51N t51C, .int .i64 t51]] w3 (fun e w10 => ∃ t52A : Option Addr, ∃ t52N : Nat, ∃ t52C : Nat, ∃ t52 : Int, ∃ t521 : Int, ∃ t522 : Bool, e = .returned (.tuple #[.agg #[.slice t52A t52N t52C, .int .i64 t52], .int .i64 t521, .bool t522]) ∧
 newBlk w10 (.cells #[.slice none 0 0, .int .i64 0] 65 (0, 0)) fun b4 w11 =>
 storeC w11 b4 0 [.slice t52A t52N t52C, .int .i64 t52] fun w12 =>
 Calls Try.prog 37 #[.pointer (some ⟨lB, lO, none⟩)] w12 (fun e w13 => ∃ t58 : Int, ∃ t581 : Bool, e = .returned (.tuple #[.int .i64 t58, .bool t581]) ∧
 ∃ t61A : Option Addr, ∃ t61N : Nat, ∃ t61C : Nat, w13.cell? ⟨b4, 0, none⟩ = some (.slice t61A t61N t61C) ∧ ∃ t61 : Int, w13.cell? ⟨b4, 1, none⟩ = some (.int .i64 t61) ∧ 
 br (t58 == t521) (
 storeC w13 b2 0 [.slice t61A t61N t61C, .int .i64 t61] fun w14 =>
 ∃ rA1 : Option Addr, ∃ rN1 : Nat, ∃ rC1 : Nat, w14.cell? ⟨b2, 0, none⟩ = some (.slice rA1 rN1 rC1) ∧ ∃ r1 : Int, w14.cell? ⟨b2, 1, none⟩ = some (.int .i64 r1) ∧ 
 R (.tuple #[.agg #[.slice rA1 rN1 rC1, .int .i64 r1], .bool (t581 == t522)]) w14) (
 storeC w13 b2 0 [.slice t61A t61N t61C, .int .i64 t61] fun w15 =>
 ∃ rA2 : Option Addr, ∃ rN2 : Nat, ∃ rC2 : Nat, w15.cell? ⟨b2, 0, none⟩ = some (.slice rA2 rN2 rC2) ∧ ∃ r2 : Int, w15.cell? ⟨b2, 1, none⟩ = some (.int .i64 r2) ∧ 
 R (.tuple #[.agg #[.slice rA2 rN2 rC2, .int .i64 r2], .bool false]) w15)))) (
 br (t23 == 2) (
 ∃ t73A : Option Addr, ∃ t73N : Nat, ∃ t73C : Nat, w3.cell? ⟨b, 0, none⟩ = some (.slice t73A t73N t73C) ∧ ∃ t73 : Int, w3.cell? ⟨b, 1, none⟩ = some (.int .i64 t73) ∧ 
 ∃ t75 : Int, w3.cell? ⟨b1, 1, none⟩ = some (.int .i64 t75) ∧
 Calls Try.prog 51 #[.agg #[.slice t73A t73N t73C, .int .i64 t73], .int .i64 t75] w3 (fun e w16 => ∃ t76A : Option Addr, ∃ t76N : Nat, ∃ t76C : Nat, ∃ t76 : Int, ∃ t761 : Int, e = .returned (.tuple #[.agg #[.slice t76A t76N t76C, .int .i64 t76], .int .i64 t761]) ∧
 newBlk w16 (.cells #[.slice none 0 0, .int .i64 0] 65 (0, 0)) fun b5 w17 =>
 storeC w17 b5 0 [.slice t76A t76N t76C, .int .i64 t76] fun w18 =>
 ∃ S : World → Prop, S w18.drew ∧ drawC w18 fun w19 =>
 ∃ t82 : Int, w19.cell? ⟨b1, 1, none⟩ = some (.int .i64 t82) ∧
 ∃ t79A : Option Addr, ∃ t79N : Nat, ∃ t79C : Nat, (∀ w9 : World, S w9 → w9.cell? ⟨b5, 0, none⟩ = some (.slice t79A t79N t79C)) ∧ ∃ t79 : Int, (∀ w9 : World, S w9 → w9.cell? ⟨b5, 1, none⟩ = some (.int .i64 t79)) ∧ 
 Calls Try.prog 38 #[.pointer (some ⟨lB, lO, none⟩), .int .i64 t82] w19 (fun e w20 => ∃ t83 : Int, e = .returned (.int .i64 t83) ∧
 S w20 ∧ storeC w20 b2 0 [.slice t79A t79N t79C, .int .i64 t79] fun w21 =>
 S w21 ∧ ∃ rA3 : Option Addr, ∃ rN3 : Nat, ∃ rC3 : Nat, w21.cell? ⟨b2, 0, none⟩ = some (.slice rA3 rN3 rC3) ∧ ∃ r3 : Int, w21.cell? ⟨b2, 1, none⟩ = some (.int .i64 r3) ∧ 
 R (.tuple #[.agg #[.slice rA3 rN3 rC3, .int .i64 r3], .bool (t83 == t761)]) w21))) (
 br (t23 == 3) (
 ∃ t89A : Option Addr, ∃ t89N : Nat, ∃ t89C : Nat, w3.cell? ⟨b, 0, none⟩ = some (.slice t89A t89N t89C) ∧ ∃ t89 : Int, w3.cell? ⟨b, 1, none⟩ = some (.int .i64 t89) ∧ 
 ∃ t91 : Int, w3.cell? ⟨b1, 3, none⟩ = some (.int .i64 t91) ∧
 Calls Try.prog 52 #[.agg #[.slice t89A t89N t89C, .int .i64 t89], .int .i64 t91] w3 (fun e w22 => ∃ t92A : Option Addr, ∃ t92N : Nat, ∃ t92C : Nat, ∃ t92 : Int, ∃ t92A1 : Option Addr, ∃ t92N1 : Nat, ∃ t92C1 : Nat, ∃ t921 : Int, e = .returned (.tuple #[.agg #[.slice t92A t92N t92C, .int .i64 t92], .slice t92A1 t92N1 t92C1, .int .i64 t921]) ∧
 newBlk w22 (.cells #[.slice none 0 0, .int .i64 0] 65 (0, 0)) fun b6 w23 =>
 storeC w23 b6 0 [.slice t92A t92N t92C, .int .i64 t92] fun w24 =>
 ∃ t99 : Int, w24.cell? ⟨b1, 3, none⟩ = some (.int .i64 t99) ∧
 Calls Try.prog 30 #[.pointer (some ⟨lB, lO, none⟩), .int .i64 t99] w24 (fun e w25 => ∃ t100A : Option Addr, ∃ t100N : Nat, ∃ t100C : Nat, ∃ t100 : Int, e = .returned (.tuple #[.slice t100A t100N t100C, .int .i64 t100]) ∧
 ∃ S : World → Prop, S w25.drew ∧ drawC w25 fun w26 =>
 br (t100 == t921) (
 ∃ t103A : Option Addr, ∃ t103N : Nat, ∃ t103C : Nat, (∀ w9 : World, S w9 → w9.cell? ⟨b6, 0, none⟩ = some (.slice t103A t103N t103C)) ∧ ∃ t103 : Int, (∀ w9 : World, S w9 → w9.cell? ⟨b6, 1, none⟩ = some (.int .i64 t103)) ∧ 
 Calls Try.prog 34 #[.slice t100A t100N t100C, .slice t92A1 t92N1 t92C1] w26 (fun e w27 => ∃ t110 : Bool, e = .returned (.bool t110) ∧
 S w27 ∧ storeC w27 b2 0 [.slice t103A t103N t103C, .int .i64 t103] fun w28 =>
 S w28 ∧ ∃ rA4 : Option Addr, ∃ rN4 : Nat, ∃ rC4 : Nat, w28.cell? ⟨b2, 0, none⟩ = some (.slice rA4 rN4 rC4) ∧ ∃ r4 : Int, w28.cell? ⟨b2, 1, none⟩ = some (.int .i64 r4) ∧ 
 R (.tuple #[.agg #[.slice rA4 rN4 rC4, .int .i64 r4], .bool t110]) w28)) (
 ∃ t103A1 : Option Addr, ∃ t103N1 : Nat, ∃ t103C1 : Nat, (∀ w9 : World, S w9 → w9.cell? ⟨b6, 0, none⟩ = some (.slice t103A1 t103N1 t103C1)) ∧ ∃ t1031 : Int, (∀ w9 : World, S w9 → w9.cell? ⟨b6, 1, none⟩ = some (.int .i64 t1031)) ∧ 
 storeC w26 b2 0 [.slice t103A1 t103N1 t103C1, .int .i64 t1031] fun w29 =>
 S w29 ∧ ∃ rA5 : Option Addr, ∃ rN5 : Nat, ∃ rC5 : Nat, w29.cell? ⟨b2, 0, none⟩ = some (.slice rA5 rN5 rC5) ∧ ∃ r5 : Int, w29.cell? ⟨b2, 1, none⟩ = some (.int .i64 r5) ∧ 
 R (.tuple #[.agg #[.slice rA5 rN5 rC5, .int .i64 r5], .bool false]) w29)))) (
 ∃ t112A : Option Addr, ∃ t112N : Nat, ∃ t112C : Nat, w3.cell? ⟨b, 0, none⟩ = some (.slice t112A t112N t112C) ∧ ∃ t112 : Int, w3.cell? ⟨b, 1, none⟩ = some (.int .i64 t112) ∧ 
 storeC w3 b2 0 [.slice t112A t112N t112C, .int .i64 t112] fun w30 =>
 ∃ rA6 : Option Addr, ∃ rN6 : Nat, ∃ rC6 : Nat, w30.cell? ⟨b2, 0, none⟩ = some (.slice rA6 rN6 rC6) ∧ ∃ r6 : Int, w30.cell? ⟨b2, 1, none⟩ = some (.int .i64 r6) ∧ 
 R (.tuple #[.agg #[.slice rA6 rN6 rC6, .int .i64 r6], .bool true]) w30))))

theorem purlinlaw14_does.vc (lB : Nat) (lO : Nat) (mA : Option Addr) (mN : Nat) (mC : Nat) (m : Int) (c : Int) (c1 : Int) (c2 : Int) (c3 : Int) (w : World) (R : Value → World → Prop) : fnVC Try.prog purlinlaw14_does.A Try.f31 [.pointer (some ⟨lB, lO, none⟩), .agg #[.slice mA mN mC, .int .i64 m], .agg #[.int .i64 c, .int .i64 c1, .int .i64 c2, .int .i64 c3]] w R = purlinlaw14_does.F lB lO mA mN mC m c c1 c2 c3 w R := by kernel_rfl
theorem purlinlaw14_does.calls (lB : Nat) (lO : Nat) (mA : Option Addr) (mN : Nat) (mC : Nat) (m : Int) (c : Int) (c1 : Int) (c2 : Int) (c3 : Int) (w : World) (R : Value → World → Prop) (h : purlinlaw14_does.F lB lO mA mN mC m c c1 c2 c3 w R) : Calls Try.prog 31 #[.pointer (some ⟨lB, lO, none⟩), .agg #[.slice mA mN mC, .int .i64 m], .agg #[.int .i64 c, .int .i64 c1, .int .i64 c2, .int .i64 c3]] w (Ret R) :=
  calls_of_vc mixed Try.func31 (Eq.mpr (purlinlaw14_does.vc lB lO mA mN mC m c c1 c2 c3 w R) h)

/-! ### purlin/purlinlaw14.made: function 36 -/
def purlinlaw14_made.A : Ann where
  sched := fun i => match i with
    | _ => none
  loop := fun i => match i with
    | 3 => some [(4, some (.one (.int .i64))), (6, none), (7, none), (8, none), (9, none), (10, none), (11, none), (12, none), (13, none), (14, none), (15, none), (16, none), (17, none), (18, none), (19, none), (20, none), (21, none), (22, none), (23, none), (24, none), (25, none), (26, none)]
    | _ => none

def purlinlaw14_made.L0 (callsA : Option Addr) (callsN : Nat) (R : Value → World → Prop) (t5P : Option Addr) (i : Int) (w2 : World) (Nx0 : Int → World → Prop) : Prop :=
 br (decide (i < ((callsN : Nat) : Int))) (
 br (decide (i < 60)) (
 br (!(t5P : Option Addr).isNone) (
 0 ≤ (i : Int) ∧ i < ((callsN : Nat) : Int) ∧ okP callsA (
 ∃ t25 : Int, w2.cell? ⟨(pb callsA), po callsA + i.toNat * 4, none⟩ = some (.int .i64 t25) ∧ ∃ t251 : Int, w2.cell? ⟨(pb callsA), po callsA + i.toNat * 4 + 1, none⟩ = some (.int .i64 t251) ∧ ∃ t252 : Int, w2.cell? ⟨(pb callsA), po callsA + i.toNat * 4 + 2, none⟩ = some (.int .i64 t252) ∧ ∃ t253 : Int, w2.cell? ⟨(pb callsA), po callsA + i.toNat * 4 + 3, none⟩ = some (.int .i64 t253) ∧ 
 Calls Try.prog 31 #[.pointer t5P, .agg #[.slice none 0 0, .int .i64 0], .agg #[.int .i64 t25, .int .i64 t251, .int .i64 t252, .int .i64 t253]] w2 (fun e w3 => ∃ t26A : Option Addr, ∃ t26N : Nat, ∃ t26C : Nat, ∃ t26 : Int, ∃ t261 : Bool, e = .returned (.tuple #[.agg #[.slice t26A t26N t26C, .int .i64 t26], .bool t261]) ∧
 Nx0 (IntKind.wrap .i64 (i + 1)) w3))) (
 R (.pointer t5P) w2)) (
 R (.pointer t5P) w2)) (
 R (.pointer t5P) w2)

def purlinlaw14_made.F (callsA : Option Addr) (callsN : Nat) (callsC : Nat) (w : World) (R : Value → World → Prop) : Prop :=
 Calls Try.prog 26 #[] w (fun e w1 => ∃ t5P : Option Addr, e = .returned (.pointer t5P) ∧
 ∃ I : Nat → Int → World → Prop, (∃ n, I n 0 w1) ∧ ∀ (n9 : Nat) (dead : Nat → Value) (w2 : World) (i : Int), I n9 i w2 →
 purlinlaw14_made.L0 callsA callsN R t5P i w2 (fun x0 w9 => ∃ m, m < n9 ∧ I m x0 w9))

theorem purlinlaw14_made.vc (callsA : Option Addr) (callsN : Nat) (callsC : Nat) (w : World) (R : Value → World → Prop) : fnVC Try.prog purlinlaw14_made.A Try.f36 [.slice callsA callsN callsC] w R = purlinlaw14_made.F callsA callsN callsC w R := by kernel_rfl
theorem purlinlaw14_made.calls (callsA : Option Addr) (callsN : Nat) (callsC : Nat) (w : World) (R : Value → World → Prop) (h : purlinlaw14_made.F callsA callsN callsC w R) : Calls Try.prog 36 #[.slice callsA callsN callsC] w (Ret R) :=
  calls_of_vc mixed Try.func36 (Eq.mpr (purlinlaw14_made.vc callsA callsN callsC w R) h)

/-! ### purlin/purlinlaw14.LineTakes: function 10 -/
def purlinlaw14_LineTakes.A : Ann where
  sched := fun i => match i with
    | _ => none
  loop := fun i => match i with
    | 6 => some [(2, none), (5, some (.one (.int .i64))), (6, none), (7, none), (8, none), (9, none), (22, none), (23, none), (24, none), (25, none), (26, none), (27, none), (28, none), (29, none), (30, none), (31, none), (32, none), (33, none), (34, none), (35, none), (36, none), (37, none), (38, none), (39, none), (40, none), (41, none), (42, none), (43, none), (44, none), (45, none), (46, none), (47, none), (48, none), (49, none), (50, none), (51, none), (52, none), (53, none), (54, none), (55, none), (56, none), (57, none), (58, none), (59, none), (60, none), (61, none), (62, none)]
    | _ => none

def purlinlaw14_LineTakes.L0 (R : Value → World → Prop) (t13P : Option Addr) (t21A : Option Addr) (t21N : Nat) (i : Int) (w4 : World) (Nx0 : Int → World → Prop) : Prop :=
 br (decide (i < ((t21N : Nat) : Int))) (
 Calls Try.prog 33 #[.pointer t13P] w4 (fun e w5 => ∃ t30 : Int, ∃ t301 : Bool, e = .returned (.tuple #[.int .i64 t30, .bool t301]) ∧
 Calls Try.prog 37 #[.pointer t13P] w5 (fun e w6 => ∃ t35 : Int, ∃ t351 : Bool, e = .returned (.tuple #[.int .i64 t35, .bool t351]) ∧
 br (!t301) (
 R (.bool false) w6) (
 br (!t351) (
 R (.bool false) w6) (
 br (t35 != t30) (
 R (.bool false) w6) (
 0 ≤ (i : Int) ∧ i < ((t21N : Nat) : Int) ∧ okP t21A (
 ∃ t54 : Int, w6.cell? ⟨(pb t21A), po t21A + i.toNat * 1, none⟩ = some (.int .i64 t54) ∧
 br (t35 != t54) (
 R (.bool false) w6) (
 Calls Try.prog 38 #[.pointer t13P, .int .i64 t35] w6 (fun e w7 => ∃ t60 : Int, e = .returned (.int .i64 t60) ∧
 br (t60 != 142) (
 R (.bool false) w7) (
 Nx0 (IntKind.wrap .i64 (i + 1)) w7)))))))))) (
 Calls Try.prog 37 #[.pointer t13P] w4 (fun e w8 => ∃ t65 : Int, ∃ t651 : Bool, e = .returned (.tuple #[.int .i64 t65, .bool t651]) ∧
 br (!t651) (
 Calls Try.prog 29 #[.pointer t13P] w8 (fun e w9 => ∃ t72A : Option Addr, ∃ t72N : Nat, ∃ t72C : Nat, e = .returned (.slice t72A t72N t72C) ∧
 R (.bool (((t72N : Nat) : Int) == 0)) w9)) (
 R (.bool false) w8)))

def purlinlaw14_LineTakes.F (callsA : Option Addr) (callsN : Nat) (callsC : Nat) (w : World) (R : Value → World → Prop) : Prop :=
 Calls Try.prog 36 #[.slice callsA callsN callsC] w (fun e w1 => ∃ t13P : Option Addr, e = .returned (.pointer t13P) ∧
 Calls Try.prog 27 #[] w1 (fun e w2 => ∃ t14 : Bool, e = .returned (.bool t14) ∧
 br (!t14) (
 R (.bool false) w2) (
 br ((t13P : Option Addr).isNone) (
 R (.bool false) w2) (
 Calls Try.prog 29 #[.pointer t13P] w2 (fun e w3 => ∃ t21A : Option Addr, ∃ t21N : Nat, ∃ t21C : Nat, e = .returned (.slice t21A t21N t21C) ∧
 ∃ I : Nat → Int → World → Prop, (∃ n, I n 0 w3) ∧ ∀ (n9 : Nat) (dead : Nat → Value) (w4 : World) (i : Int), I n9 i w4 →
 purlinlaw14_LineTakes.L0 R t13P t21A t21N i w4 (fun x0 w9 => ∃ m, m < n9 ∧ I m x0 w9))))))

theorem purlinlaw14_LineTakes.vc (callsA : Option Addr) (callsN : Nat) (callsC : Nat) (w : World) (R : Value → World → Prop) : fnVC Try.prog purlinlaw14_LineTakes.A Try.f10 [.slice callsA callsN callsC] w R = purlinlaw14_LineTakes.F callsA callsN callsC w R := by kernel_rfl
theorem purlinlaw14_LineTakes.calls (callsA : Option Addr) (callsN : Nat) (callsC : Nat) (w : World) (R : Value → World → Prop) (h : purlinlaw14_LineTakes.F callsA callsN callsC w R) : Calls Try.prog 10 #[.slice callsA callsN callsC] w (Ret R) :=
  calls_of_vc mixed Try.func10 (Eq.mpr (purlinlaw14_LineTakes.vc callsA callsN callsC w R) h)

end Go.Proofs.Ytgkbokhmmoemfaa
