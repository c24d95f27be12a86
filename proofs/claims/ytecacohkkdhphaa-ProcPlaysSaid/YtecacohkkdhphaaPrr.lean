/- Printed by vcgen.py: of each function of this text its weakest precondition as a formula, and that it is one. Conditions: none. -/
import Derived.Test.YtecacohkkdhphaaVcCode
import Derived.Test.YtecacohkkdhphaaVcMem
import Derived.Test.YtecacohkkdhphaaChecked
namespace Go.Proofs.Ytecacohkkdhphaa
open Go.Vc
set_option linter.unusedVariables false
set_option maxRecDepth 100000

/-! ### purlin/purlinref17.New: function 21 -/
def purlinref17_New.A : Ann where
  sched := fun i => match i with
    | 9 => some ((some 2560), .still 2 false 11 <| .still 3 false 7 <| .still 4 false 15 <| .still 5 false 31 <| .still 6 false 63 <| .still 7 false 127 <| .still 0 true 508 <| .still 1 true 509 <| .eff 8 <| .eff 9 <| .still 10 false 1023 <| .eff 11 <| .done)
    | _ => none
  loop := fun i => match i with
    | 5 => some [(3, none), (5, some (.one (.int .i64))), (19, none), (20, none), (21, none), (22, none), (23, none), (24, none), (25, none), (26, none), (27, none), (28, none), (29, none), (30, none), (31, none), (32, none), (33, none), (34, none), (35, none), (36, none), (37, none), (38, none), (39, none), (40, none), (41, none)]
    | _ => none

def purlinref17_New.K0 (R : Value → World → Prop) (b : Nat) (w3 : World) : Prop :=
 ∃ rA : Option Addr, ∃ rN : Nat, ∃ rC : Nat, w3.cell? ⟨b, 0, none⟩ = some (.slice rA rN rC) ∧ ∃ rA1 : Option Addr, ∃ rN1 : Nat, ∃ rC1 : Nat, w3.cell? ⟨b, 1, none⟩ = some (.slice rA1 rN1 rC1) ∧ ∃ rA2 : Option Addr, ∃ rN2 : Nat, ∃ rC2 : Nat, w3.cell? ⟨b, 2, none⟩ = some (.slice rA2 rN2 rC2) ∧ 
 R (.tuple #[.agg #[.slice rA rN rC, .slice rA1 rN1 rC1, .slice rA2 rN2 rC2], .int .i64 173]) w3

def purlinref17_New.L0 (priosA : Option Addr) (priosN : Nat) (R : Value → World → Prop) (b : Nat) (b2 : Nat) (i : Int) (w9 : World) (Nx0 : Int → World → Prop) : Prop :=
 br (decide (i < ((priosN : Nat) : Int))) (
 0 ≤ (i : Int) ∧ i < ((priosN : Nat) : Int) ∧ okP priosA (
 ∃ t28 : Int, w9.cell? ⟨(pb priosA), po priosA + i.toNat * 1, none⟩ = some (.int .u8 t28) ∧
 br (decide (t28 > 63)) (
 storeC w9 b 0 [.slice none 0 0, .slice none 0 0, .slice none 0 0] fun w10 =>
 ∃ rA3 : Option Addr, ∃ rN3 : Nat, ∃ rC3 : Nat, w10.cell? ⟨b, 0, none⟩ = some (.slice rA3 rN3 rC3) ∧ ∃ rA4 : Option Addr, ∃ rN4 : Nat, ∃ rC4 : Nat, w10.cell? ⟨b, 1, none⟩ = some (.slice rA4 rN4 rC4) ∧ ∃ rA5 : Option Addr, ∃ rN5 : Nat, ∃ rC5 : Nat, w10.cell? ⟨b, 2, none⟩ = some (.slice rA5 rN5 rC5) ∧ 
 R (.tuple #[.agg #[.slice rA3 rN3 rC3, .slice rA4 rN4 rC4, .slice rA5 rN5 rC5], .int .i64 172]) w10) (
 ∃ S : World → Prop, S w9.drew ∧ drawC w9 fun w11 =>
 0 ≤ (i : Int) ∧ i < ((priosN : Nat) : Int) ∧ okP priosA (
 ∃ t36 : Int, w11.cell? ⟨(pb priosA), po priosA + i.toNat * 1, none⟩ = some (.int .u8 t36) ∧
 ∃ t32A : Option Addr, ∃ t32N : Nat, ∃ t32C : Nat, (∀ w9 : World, S w9 → w9.cell? ⟨b2, 1, none⟩ = some (.slice t32A t32N t32C)) ∧
 newBlk w11 (.cells #[.int .i64 0, .bool false, .int .i64 (IntKind.wrap .i64 t36)] 60 (0, 0)) fun b3 w12 =>
 S w12 ∧ ∃ t40A : Option Addr, ∃ t40N : Nat, ∃ t40C : Nat, ∃ w13 : World, (Builtin.append_ #[40, 40] 40 #[.slice t32A t32N t32C, .slice (some ⟨b3, 0, none⟩) 1 1]).run Try.prog w12 = .ok (.slice t40A t40N t40C) w13 ∧
 storeC w13 b2 1 [.slice t40A t40N t40C] fun w14 =>
 Nx0 (IntKind.wrap .i64 (i + 1)) w14)))) (
 ∃ t42A : Option Addr, ∃ t42N : Nat, ∃ t42C : Nat, w9.cell? ⟨b2, 0, none⟩ = some (.slice t42A t42N t42C) ∧ ∃ t42A1 : Option Addr, ∃ t42N1 : Nat, ∃ t42C1 : Nat, w9.cell? ⟨b2, 1, none⟩ = some (.slice t42A1 t42N1 t42C1) ∧ ∃ t42A2 : Option Addr, ∃ t42N2 : Nat, ∃ t42C2 : Nat, w9.cell? ⟨b2, 2, none⟩ = some (.slice t42A2 t42N2 t42C2) ∧ 
 storeC w9 b 0 [.slice t42A t42N t42C, .slice t42A1 t42N1 t42C1, .slice t42A2 t42N2 t42C2] fun w15 =>
 ∃ rA6 : Option Addr, ∃ rN6 : Nat, ∃ rC6 : Nat, w15.cell? ⟨b, 0, none⟩ = some (.slice rA6 rN6 rC6) ∧ ∃ rA7 : Option Addr, ∃ rN7 : Nat, ∃ rC7 : Nat, w15.cell? ⟨b, 1, none⟩ = some (.slice rA7 rN7 rC7) ∧ ∃ rA8 : Option Addr, ∃ rN8 : Nat, ∃ rC8 : Nat, w15.cell? ⟨b, 2, none⟩ = some (.slice rA8 rN8 rC8) ∧ 
 R (.tuple #[.agg #[.slice rA6 rN6 rC6, .slice rA7 rN7 rC7, .slice rA8 rN8 rC8], .int .i64 0]) w15)

def purlinref17_New.F (priosA : Option Addr) (priosN : Nat) (priosC : Nat) (w : World) (R : Value → World → Prop) : Prop :=
 newBlk w (.cells #[.slice none 0 0, .slice none 0 0, .slice none 0 0] 42 (0, 0)) fun b w1 =>
 br (decide (((priosN : Nat) : Int) < 1)) (
 storeC w1 b 0 [.slice none 0 0, .slice none 0 0, .slice none 0 0] fun w2 =>
 purlinref17_New.K0 R b w2) (
 br (decide (((priosN : Nat) : Int) > 16)) (
 storeC w1 b 0 [.slice none 0 0, .slice none 0 0, .slice none 0 0] fun w4 =>
 purlinref17_New.K0 R b w4) (
 newBlk w1 (.cells #[] 5 (0, 0)) fun b1 w5 =>
 ∃ t17A : Option Addr, ∃ t17N : Nat, ∃ t17C : Nat, ∃ w6 : World, (Builtin.append_ #[22, 22] 22 #[.slice (some ⟨b1, 0, none⟩) 0 0, .slice priosA priosN priosC]).run Try.prog w5 = .ok (.slice t17A t17N t17C) w6 ∧
 newBlk w6 (.cells #[.slice none 0 0, .slice none 0 0, .slice none 0 0] 42 (0, 0)) fun b2 w7 =>
 storeC w7 b2 0 [.slice t17A t17N t17C, .slice none 0 0, .slice none 0 0] fun w8 =>
 ∃ I : Nat → Int → World → Prop, (∃ n, I n 0 w8) ∧ ∀ (n9 : Nat) (dead : Nat → Value) (w9 : World) (i : Int), I n9 i w9 →
 purlinref17_New.L0 priosA priosN R b b2 i w9 (fun x0 w9 => ∃ m, m < n9 ∧ I m x0 w9)))

theorem purlinref17_New.vc (priosA : Option Addr) (priosN : Nat) (priosC : Nat) (w : World) (R : Value → World → Prop) : fnVC Try.prog purlinref17_New.A Try.f21 [.slice priosA priosN priosC] w R = purlinref17_New.F priosA priosN priosC w R := by kernel_rfl
theorem purlinref17_New.calls (priosA : Option Addr) (priosN : Nat) (priosC : Nat) (w : World) (R : Value → World → Prop) (h : purlinref17_New.F priosA priosN priosC w R) : Calls Try.prog 21 #[.slice priosA priosN priosC] w (Ret R) :=
  calls_of_vc mixed Try.func21 (Eq.mpr (purlinref17_New.vc priosA priosN priosC w R) h)

/-! ### purlin/purlinref17.Do: function 24 -/
def purlinref17_Do.A : Ann where
  sched := fun i => match i with
    | 40 => some ((some 640), .still 1 true 113 <| .still 4 true 15 <| .still 2 true 115 <| .still 5 true 31 <| .alt 0 (.alt 3 (.eff 6 <| .eff 7 <| .still 8 false 255 <| .eff 9 <| .done) <| .eff 6 <| .eff 3 <| .eff 7 <| .still 8 false 255 <| .eff 9 <| .done) <| .eff 6 <| .eff 0 <| .eff 3 <| .eff 7 <| .still 8 false 255 <| .eff 9 <| .done)
    | _ => none
  loop := fun i => match i with
    | _ => none

def purlinref17_Do.K0 (R : Value → World → Prop) (b2 : Nat) (w9 : World) : Prop :=
 ∃ rA3 : Option Addr, ∃ rN3 : Nat, ∃ rC3 : Nat, w9.cell? ⟨b2, 0, none⟩ = some (.slice rA3 rN3 rC3) ∧ ∃ rA4 : Option Addr, ∃ rN4 : Nat, ∃ rC4 : Nat, w9.cell? ⟨b2, 1, none⟩ = some (.slice rA4 rN4 rC4) ∧ ∃ rA5 : Option Addr, ∃ rN5 : Nat, ∃ rC5 : Nat, w9.cell? ⟨b2, 2, none⟩ = some (.slice rA5 rN5 rC5) ∧ 
 R (.tuple #[.agg #[.slice rA3 rN3 rC3, .slice rA4 rN4 rC4, .slice rA5 rN5 rC5], .int .i64 170]) w9

def purlinref17_Do.K1 (R : Value → World → Prop) (b2 : Nat) (w12 : World) : Prop :=
 ∃ rA6 : Option Addr, ∃ rN6 : Nat, ∃ rC6 : Nat, w12.cell? ⟨b2, 0, none⟩ = some (.slice rA6 rN6 rC6) ∧ ∃ rA7 : Option Addr, ∃ rN7 : Nat, ∃ rC7 : Nat, w12.cell? ⟨b2, 1, none⟩ = some (.slice rA7 rN7 rC7) ∧ ∃ rA8 : Option Addr, ∃ rN8 : Nat, ∃ rC8 : Nat, w12.cell? ⟨b2, 2, none⟩ = some (.slice rA8 rN8 rC8) ∧ 
 R (.tuple #[.agg #[.slice rA6 rN6 rC6, .slice rA7 rN7 rC7, .slice rA8 rN8 rC8], .int .i64 172]) w12

def purlinref17_Do.K2 (R : Value → World → Prop) (b : Nat) (b2 : Nat) (w33 : World) : Prop :=
 ∃ t145A : Option Addr, ∃ t145N : Nat, ∃ t145C : Nat, w33.cell? ⟨b, 0, none⟩ = some (.slice t145A t145N t145C) ∧ ∃ t145A1 : Option Addr, ∃ t145N1 : Nat, ∃ t145C1 : Nat, w33.cell? ⟨b, 1, none⟩ = some (.slice t145A1 t145N1 t145C1) ∧ ∃ t145A2 : Option Addr, ∃ t145N2 : Nat, ∃ t145C2 : Nat, w33.cell? ⟨b, 2, none⟩ = some (.slice t145A2 t145N2 t145C2) ∧ 
 storeC w33 b2 0 [.slice t145A t145N t145C, .slice t145A1 t145N1 t145C1, .slice t145A2 t145N2 t145C2] fun w34 =>
 ∃ rA12 : Option Addr, ∃ rN12 : Nat, ∃ rC12 : Nat, w34.cell? ⟨b2, 0, none⟩ = some (.slice rA12 rN12 rC12) ∧ ∃ rA13 : Option Addr, ∃ rN13 : Nat, ∃ rC13 : Nat, w34.cell? ⟨b2, 1, none⟩ = some (.slice rA13 rN13 rC13) ∧ ∃ rA14 : Option Addr, ∃ rN14 : Nat, ∃ rC14 : Nat, w34.cell? ⟨b2, 2, none⟩ = some (.slice rA14 rN14 rC14) ∧ 
 R (.tuple #[.agg #[.slice rA12 rN12 rC12, .slice rA13 rN13 rC13, .slice rA14 rN14 rC14], .int .i64 0]) w34

def purlinref17_Do.K3 (R : Value → World → Prop) (b2 : Nat) (w22 : World) : Prop :=
 ∃ rA9 : Option Addr, ∃ rN9 : Nat, ∃ rC9 : Nat, w22.cell? ⟨b2, 0, none⟩ = some (.slice rA9 rN9 rC9) ∧ ∃ rA10 : Option Addr, ∃ rN10 : Nat, ∃ rC10 : Nat, w22.cell? ⟨b2, 1, none⟩ = some (.slice rA10 rN10 rC10) ∧ ∃ rA11 : Option Addr, ∃ rN11 : Nat, ∃ rC11 : Nat, w22.cell? ⟨b2, 2, none⟩ = some (.slice rA11 rN11 rC11) ∧ 
 R (.tuple #[.agg #[.slice rA9 rN9 rC9, .slice rA10 rN10 rC10, .slice rA11 rN11 rC11], .int .i64 171]) w22

def purlinref17_Do.K4 (R : Value → World → Prop) (b : Nat) (b1 : Nat) (b2 : Nat) (qB3 : Nat) (ok3 : Bool) (w46 : World) : Prop :=
 br (!ok3) (
 ∃ t123A3 : Option Addr, ∃ t123N3 : Nat, ∃ t123C3 : Nat, w46.cell? ⟨b, 0, none⟩ = some (.slice t123A3 t123N3 t123C3) ∧ ∃ t123A4 : Option Addr, ∃ t123N4 : Nat, ∃ t123C4 : Nat, w46.cell? ⟨b, 1, none⟩ = some (.slice t123A4 t123N4 t123C4) ∧ ∃ t123A5 : Option Addr, ∃ t123N5 : Nat, ∃ t123C5 : Nat, w46.cell? ⟨b, 2, none⟩ = some (.slice t123A5 t123N5 t123C5) ∧ 
 storeC w46 b2 0 [.slice t123A3 t123N3 t123C3, .slice t123A4 t123N4 t123C4, .slice t123A5 t123N5 t123C5] fun w47 =>
 purlinref17_Do.K3 R b2 w47) (
 newBlk w46 (.cells #[] 60 (0, 0)) fun b12 w48 =>
 ∃ t126A1 : Option Addr, ∃ t126N1 : Nat, ∃ t126C1 : Nat, w48.cell? ⟨b, 1, none⟩ = some (.slice t126A1 t126N1 t126C1) ∧
 ∃ t127A1 : Option Addr, ∃ t127N1 : Nat, ∃ t127C1 : Nat, ∃ w49 : World, (Builtin.append_ #[40, 40] 40 #[.slice (some ⟨b12, 0, none⟩) 0 0, .slice t126A1 t126N1 t126C1]).run Try.prog w48 = .ok (.slice t127A1 t127N1 t127C1) w49 ∧
 ∃ t1301 : Int, w49.cell? ⟨b1, 1, none⟩ = some (.int .i64 t1301) ∧
 ∃ t1313 : Int, w49.cell? ⟨qB3, 0, none⟩ = some (.int .i64 t1313) ∧ ∃ t1314 : Bool, w49.cell? ⟨qB3, 1, none⟩ = some (.bool t1314) ∧ ∃ t1315 : Int, w49.cell? ⟨qB3, 2, none⟩ = some (.int .i64 t1315) ∧ 
 0 ≤ (t1301 : Int) ∧ t1301 < ((t127N1 : Nat) : Int) ∧ okP t127A1 (
 storeC w49 (pb t127A1) (po t127A1 + t1301.toNat * 3) [.int .i64 t1313, .bool t1314, .int .i64 t1315] fun w50 =>
 storeC w50 b 1 [.slice t127A1 t127N1 t127C1] fun w51 =>
 purlinref17_Do.K2 R b b2 w51))

def purlinref17_Do.K5 (R : Value → World → Prop) (b : Nat) (b1 : Nat) (b2 : Nat) (qB1 : Nat) (ok1 : Bool) (w20 : World) : Prop :=
 br (!ok1) (
 ∃ t123A : Option Addr, ∃ t123N : Nat, ∃ t123C : Nat, w20.cell? ⟨b, 0, none⟩ = some (.slice t123A t123N t123C) ∧ ∃ t123A1 : Option Addr, ∃ t123N1 : Nat, ∃ t123C1 : Nat, w20.cell? ⟨b, 1, none⟩ = some (.slice t123A1 t123N1 t123C1) ∧ ∃ t123A2 : Option Addr, ∃ t123N2 : Nat, ∃ t123C2 : Nat, w20.cell? ⟨b, 2, none⟩ = some (.slice t123A2 t123N2 t123C2) ∧ 
 storeC w20 b2 0 [.slice t123A t123N t123C, .slice t123A1 t123N1 t123C1, .slice t123A2 t123N2 t123C2] fun w21 =>
 purlinref17_Do.K3 R b2 w21) (
 newBlk w20 (.cells #[] 60 (0, 0)) fun b6 w23 =>
 ∃ t126A : Option Addr, ∃ t126N : Nat, ∃ t126C : Nat, w23.cell? ⟨b, 1, none⟩ = some (.slice t126A t126N t126C) ∧
 ∃ t127A : Option Addr, ∃ t127N : Nat, ∃ t127C : Nat, ∃ w24 : World, (Builtin.append_ #[40, 40] 40 #[.slice (some ⟨b6, 0, none⟩) 0 0, .slice t126A t126N t126C]).run Try.prog w23 = .ok (.slice t127A t127N t127C) w24 ∧
 ∃ t130 : Int, w24.cell? ⟨b1, 1, none⟩ = some (.int .i64 t130) ∧
 ∃ t131 : Int, w24.cell? ⟨qB1, 0, none⟩ = some (.int .i64 t131) ∧ ∃ t1311 : Bool, w24.cell? ⟨qB1, 1, none⟩ = some (.bool t1311) ∧ ∃ t1312 : Int, w24.cell? ⟨qB1, 2, none⟩ = some (.int .i64 t1312) ∧ 
 0 ≤ (t130 : Int) ∧ t130 < ((t127N : Nat) : Int) ∧ okP t127A (
 storeC w24 (pb t127A) (po t127A + t130.toNat * 3) [.int .i64 t131, .bool t1311, .int .i64 t1312] fun w25 =>
 storeC w25 b 1 [.slice t127A t127N t127C] fun w26 =>
 ∃ S : World → Prop, S w26.drew ∧ drawC w26 fun w27 =>
 ∃ t138A : Option Addr, ∃ t138N : Nat, ∃ t138C : Nat, (∀ w9 : World, S w9 → w9.cell? ⟨b, 2, none⟩ = some (.slice t138A t138N t138C)) ∧
 ∃ t141 : Int, (∀ w9 : World, S w9 → w9.cell? ⟨b1, 1, none⟩ = some (.int .i64 t141)) ∧
 (newBlk w27 (.cells #[] 3 (0, 0)) fun b7 w28 =>
 S w28 ∧ (∃ t139A : Option Addr, ∃ t139N : Nat, ∃ t139C : Nat, ∃ w29 : World, (Builtin.append_ #[29, 29] 29 #[.slice (some ⟨b7, 0, none⟩) 0 0, .slice t138A t138N t138C]).run Try.prog w28 = .ok (.slice t139A t139N t139C) w29 ∧
 S w29 ∧ newBlk w29 (.cells #[.int .i64 t141] 3 (0, 0)) fun b8 w30 =>
 S w30 ∧ ∃ t143A : Option Addr, ∃ t143N : Nat, ∃ t143C : Nat, ∃ w31 : World, (Builtin.append_ #[29, 29] 29 #[.slice t139A t139N t139C, .slice (some ⟨b8, 0, none⟩) 1 1]).run Try.prog w30 = .ok (.slice t143A t143N t143C) w31 ∧
 storeC w31 b 2 [.slice t143A t143N t143C] fun w32 =>
 purlinref17_Do.K2 R b b2 w32) ∧
 (newBlk w28 (.cells #[.int .i64 t141] 3 (0, 0)) fun b9 w35 =>
 S w35 ∧ ∃ t139A1 : Option Addr, ∃ t139N1 : Nat, ∃ t139C1 : Nat, ∃ w36 : World, (Builtin.append_ #[29, 29] 29 #[.slice (some ⟨b7, 0, none⟩) 0 0, .slice t138A t138N t138C]).run Try.prog w35 = .ok (.slice t139A1 t139N1 t139C1) w36 ∧
 S w36 ∧ ∃ t143A1 : Option Addr, ∃ t143N1 : Nat, ∃ t143C1 : Nat, ∃ w37 : World, (Builtin.append_ #[29, 29] 29 #[.slice t139A1 t139N1 t139C1, .slice (some ⟨b9, 0, none⟩) 1 1]).run Try.prog w36 = .ok (.slice t143A1 t143N1 t143C1) w37 ∧
 storeC w37 b 2 [.slice t143A1 t143N1 t143C1] fun w38 =>
 purlinref17_Do.K2 R b b2 w38)) ∧
 (newBlk w27 (.cells #[.int .i64 t141] 3 (0, 0)) fun b10 w39 =>
 S w39 ∧ newBlk w39 (.cells #[] 3 (0, 0)) fun b11 w40 =>
 S w40 ∧ ∃ t139A2 : Option Addr, ∃ t139N2 : Nat, ∃ t139C2 : Nat, ∃ w41 : World, (Builtin.append_ #[29, 29] 29 #[.slice (some ⟨b11, 0, none⟩) 0 0, .slice t138A t138N t138C]).run Try.prog w40 = .ok (.slice t139A2 t139N2 t139C2) w41 ∧
 S w41 ∧ ∃ t143A2 : Option Addr, ∃ t143N2 : Nat, ∃ t143C2 : Nat, ∃ w42 : World, (Builtin.append_ #[29, 29] 29 #[.slice t139A2 t139N2 t139C2, .slice (some ⟨b10, 0, none⟩) 1 1]).run Try.prog w41 = .ok (.slice t143A2 t143N2 t143C2) w42 ∧
 storeC w42 b 2 [.slice t143A2 t143N2 t143C2] fun w43 =>
 purlinref17_Do.K2 R b b2 w43)))

def purlinref17_Do.K6 (R : Value → World → Prop) (b : Nat) (b2 : Nat) (qB7 : Nat) (w59 : World) : Prop :=
 ∃ t123A6 : Option Addr, ∃ t123N6 : Nat, ∃ t123C6 : Nat, w59.cell? ⟨b, 0, none⟩ = some (.slice t123A6 t123N6 t123C6) ∧ ∃ t123A7 : Option Addr, ∃ t123N7 : Nat, ∃ t123C7 : Nat, w59.cell? ⟨b, 1, none⟩ = some (.slice t123A7 t123N7 t123C7) ∧ ∃ t123A8 : Option Addr, ∃ t123N8 : Nat, ∃ t123C8 : Nat, w59.cell? ⟨b, 2, none⟩ = some (.slice t123A8 t123N8 t123C8) ∧ 
 storeC w59 b2 0 [.slice t123A6 t123N6 t123C6, .slice t123A7 t123N7 t123C7, .slice t123A8 t123N8 t123C8] fun w60 =>
 purlinref17_Do.K3 R b2 w60

def purlinref17_Do.K7 (R : Value → World → Prop) (b : Nat) (b1 : Nat) (b2 : Nat) (qB2 : Nat) (ok2 : Bool) (w44 : World) : Prop :=
 ∃ t80A : Option Addr, ∃ t80N : Nat, ∃ t80C : Nat, w44.cell? ⟨b, 0, none⟩ = some (.slice t80A t80N t80C) ∧
 ∃ t82 : Int, w44.cell? ⟨b1, 1, none⟩ = some (.int .i64 t82) ∧
 0 ≤ (t82 : Int) ∧ t82 < ((t80N : Nat) : Int) ∧ okP t80A (
 ∃ t84 : Int, w44.cell? ⟨(pb t80A), po t80A + t82.toNat * 1, none⟩ = some (.int .u8 t84) ∧
 storeC w44 qB2 0 [.int .i64 0, .bool false, .int .i64 (IntKind.wrap .i64 t84)] fun w45 =>
 purlinref17_Do.K4 R b b1 b2 qB2 ok2 w45)

def purlinref17_Do.K8 (R : Value → World → Prop) (b : Nat) (b1 : Nat) (b2 : Nat) (w3 : World) : Prop :=
 ∃ t51A : Option Addr, ∃ t51N : Nat, ∃ t51C : Nat, w3.cell? ⟨b, 1, none⟩ = some (.slice t51A t51N t51C) ∧
 ∃ t53 : Int, w3.cell? ⟨b1, 1, none⟩ = some (.int .i64 t53) ∧
 0 ≤ (t53 : Int) ∧ t53 < ((t51N : Nat) : Int) ∧ okP t51A (
 ∃ t55 : Int, w3.cell? ⟨(pb t51A), po t51A + t53.toNat * 3, none⟩ = some (.int .i64 t55) ∧ ∃ t551 : Bool, w3.cell? ⟨(pb t51A), po t51A + t53.toNat * 3 + 1, none⟩ = some (.bool t551) ∧ ∃ t552 : Int, w3.cell? ⟨(pb t51A), po t51A + t53.toNat * 3 + 2, none⟩ = some (.int .i64 t552) ∧ 
 newBlk w3 (.cells #[.int .i64 0, .bool false, .int .i64 0] 60 (0, 0)) fun b4 w14 =>
 storeC w14 b4 0 [.int .i64 t55, .bool t551, .int .i64 t552] fun w15 =>
 ∃ t57 : Int, w15.cell? ⟨b4, 0, none⟩ = some (.int .i64 t57) ∧
 br (t57 == 1) (
 ∃ t61 : Bool, w15.cell? ⟨b4, 1, none⟩ = some (.bool t61) ∧
 ∃ t64 : Int, w15.cell? ⟨b4, 0, none⟩ = some (.int .i64 t64) ∧ ∃ t641 : Bool, w15.cell? ⟨b4, 1, none⟩ = some (.bool t641) ∧ ∃ t642 : Int, w15.cell? ⟨b4, 2, none⟩ = some (.int .i64 t642) ∧ 
 newBlk w15 (.cells #[.int .i64 0, .bool false, .int .i64 0] 60 (0, 0)) fun b5 w16 =>
 storeC w16 b5 0 [.int .i64 t64, .bool t641, .int .i64 t642] fun w17 =>
 ∃ t66 : Int, w17.cell? ⟨b1, 0, none⟩ = some (.int .i64 t66) ∧
 br (t66 == 0) (
 ∃ t71 : Int, w17.cell? ⟨b4, 0, none⟩ = some (.int .i64 t71) ∧
 storeC w17 b5 0 [.int .i64 1] fun w19 =>
 purlinref17_Do.K5 R b b1 b2 b5 (t71 == 0) w19) (
 br (t66 == 1) (
 ∃ t77 : Int, w17.cell? ⟨b4, 0, none⟩ = some (.int .i64 t77) ∧
 purlinref17_Do.K7 R b b1 b2 b5 (t77 != 0) w17) (
 br (t66 == 2) (
 storeC w17 b5 0 [.int .i64 2] fun w52 =>
 purlinref17_Do.K4 R b b1 b2 b5 (!t61) w52) (
 br (t66 == 3) (
 ∃ t94 : Int, w17.cell? ⟨b4, 0, none⟩ = some (.int .i64 t94) ∧
 storeC w17 b5 0 [.int .i64 1] fun w54 =>
 purlinref17_Do.K5 R b b1 b2 b5 (t94 == 2) w54) (
 br (t66 == 4) (
 ∃ t100 : Int, w17.cell? ⟨b4, 0, none⟩ = some (.int .i64 t100) ∧
 br (t100 != 0) (
 ∃ t104 : Bool, w17.cell? ⟨b4, 1, none⟩ = some (.bool t104) ∧
 storeC w17 b5 1 [.bool true] fun w56 =>
 purlinref17_Do.K4 R b b1 b2 b5 (!t104) w56) (
 storeC w17 b5 1 [.bool true] fun w58 =>
 purlinref17_Do.K6 R b b2 b5 w58)) (
 br (t66 == 5) (
 ∃ t111 : Bool, w17.cell? ⟨b4, 1, none⟩ = some (.bool t111) ∧
 storeC w17 b5 1 [.bool false] fun w62 =>
 purlinref17_Do.K5 R b b1 b2 b5 t111 w62) (
 br (t66 == 6) (
 ∃ t116 : Int, w17.cell? ⟨b4, 0, none⟩ = some (.int .i64 t116) ∧
 ∃ t119 : Int, w17.cell? ⟨b1, 2, none⟩ = some (.int .i64 t119) ∧
 storeC w17 b5 2 [.int .i64 t119] fun w64 =>
 purlinref17_Do.K5 R b b1 b2 b5 (t116 != 0) w64) (
 purlinref17_Do.K5 R b b1 b2 b5 (!t61) w17)))))))) (
 ∃ t643 : Int, w15.cell? ⟨b4, 0, none⟩ = some (.int .i64 t643) ∧ ∃ t644 : Bool, w15.cell? ⟨b4, 1, none⟩ = some (.bool t644) ∧ ∃ t645 : Int, w15.cell? ⟨b4, 2, none⟩ = some (.int .i64 t645) ∧ 
 newBlk w15 (.cells #[.int .i64 0, .bool false, .int .i64 0] 60 (0, 0)) fun b13 w65 =>
 storeC w65 b13 0 [.int .i64 t643, .bool t644, .int .i64 t645] fun w66 =>
 ∃ t661 : Int, w66.cell? ⟨b1, 0, none⟩ = some (.int .i64 t661) ∧
 br (t661 == 0) (
 ∃ t711 : Int, w66.cell? ⟨b4, 0, none⟩ = some (.int .i64 t711) ∧
 storeC w66 b13 0 [.int .i64 1] fun w19 =>
 purlinref17_Do.K5 R b b1 b2 b13 (t711 == 0) w19) (
 br (t661 == 1) (
 ∃ t771 : Int, w66.cell? ⟨b4, 0, none⟩ = some (.int .i64 t771) ∧
 purlinref17_Do.K7 R b b1 b2 b13 (t771 != 0) w66) (
 br (t661 == 2) (
 storeC w66 b13 0 [.int .i64 2] fun w67 =>
 purlinref17_Do.K6 R b b2 b13 w67) (
 br (t661 == 3) (
 ∃ t941 : Int, w66.cell? ⟨b4, 0, none⟩ = some (.int .i64 t941) ∧
 storeC w66 b13 0 [.int .i64 1] fun w54 =>
 purlinref17_Do.K5 R b b1 b2 b13 (t941 == 2) w54) (
 br (t661 == 4) (
 ∃ t1001 : Int, w66.cell? ⟨b4, 0, none⟩ = some (.int .i64 t1001) ∧
 br (t1001 != 0) (
 ∃ t1041 : Bool, w66.cell? ⟨b4, 1, none⟩ = some (.bool t1041) ∧
 storeC w66 b13 1 [.bool true] fun w56 =>
 purlinref17_Do.K4 R b b1 b2 b13 (!t1041) w56) (
 storeC w66 b13 1 [.bool true] fun w58 =>
 purlinref17_Do.K6 R b b2 b13 w58)) (
 br (t661 == 5) (
 ∃ t1111 : Bool, w66.cell? ⟨b4, 1, none⟩ = some (.bool t1111) ∧
 storeC w66 b13 1 [.bool false] fun w62 =>
 purlinref17_Do.K5 R b b1 b2 b13 t1111 w62) (
 br (t661 == 6) (
 ∃ t1161 : Int, w66.cell? ⟨b4, 0, none⟩ = some (.int .i64 t1161) ∧
 ∃ t119 : Int, w66.cell? ⟨b1, 2, none⟩ = some (.int .i64 t119) ∧
 storeC w66 b13 2 [.int .i64 t119] fun w64 =>
 purlinref17_Do.K5 R b b1 b2 b13 (t1161 != 0) w64) (
 ∃ t123A9 : Option Addr, ∃ t123N9 : Nat, ∃ t123C9 : Nat, w66.cell? ⟨b, 0, none⟩ = some (.slice t123A9 t123N9 t123C9) ∧ ∃ t123A10 : Option Addr, ∃ t123N10 : Nat, ∃ t123C10 : Nat, w66.cell? ⟨b, 1, none⟩ = some (.slice t123A10 t123N10 t123C10) ∧ ∃ t123A11 : Option Addr, ∃ t123N11 : Nat, ∃ t123C11 : Nat, w66.cell? ⟨b, 2, none⟩ = some (.slice t123A11 t123N11 t123C11) ∧ 
 storeC w66 b2 0 [.slice t123A9 t123N9 t123C9, .slice t123A10 t123N10 t123C10, .slice t123A11 t123N11 t123C11] fun w68 =>
 purlinref17_Do.K3 R b2 w68)))))))))

def purlinref17_Do.F (tA : Option Addr) (tN : Nat) (tC : Nat) (tA1 : Option Addr) (tN1 : Nat) (tC1 : Nat) (tA2 : Option Addr) (tN2 : Nat) (tC2 : Nat) (c : Int) (c1 : Int) (c2 : Int) (w : World) (R : Value → World → Prop) : Prop :=
 newBlk w (.cells #[.slice tA tN tC, .slice tA1 tN1 tC1, .slice tA2 tN2 tC2] 42 (0, 0)) fun b w1 =>
 newBlk w1 (.cells #[.int .i64 c, .int .i64 c1, .int .i64 c2] 46 (0, 0)) fun b1 w2 =>
 newBlk w2 (.cells #[.slice none 0 0, .slice none 0 0, .slice none 0 0] 42 (0, 0)) fun b2 w3 =>
 ∃ t15 : Int, w3.cell? ⟨b1, 0, none⟩ = some (.int .i64 t15) ∧
 br (t15 == 8) (
 ∃ t19A : Option Addr, ∃ t19N : Nat, ∃ t19C : Nat, w3.cell? ⟨b, 0, none⟩ = some (.slice t19A t19N t19C) ∧
 Calls Try.prog 21 #[.slice t19A t19N t19C] w3 (fun e w4 => ∃ t20A : Option Addr, ∃ t20N : Nat, ∃ t20C : Nat, ∃ t20A1 : Option Addr, ∃ t20N1 : Nat, ∃ t20C1 : Nat, ∃ t20A2 : Option Addr, ∃ t20N2 : Nat, ∃ t20C2 : Nat, ∃ t20 : Int, e = .returned (.tuple #[.agg #[.slice t20A t20N t20C, .slice t20A1 t20N1 t20C1, .slice t20A2 t20N2 t20C2], .int .i64 t20]) ∧
 newBlk w4 (.cells #[.slice none 0 0, .slice none 0 0, .slice none 0 0] 42 (0, 0)) fun b3 w5 =>
 storeC w5 b3 0 [.slice t20A t20N t20C, .slice t20A1 t20N1 t20C1, .slice t20A2 t20N2 t20C2] fun w6 =>
 ∃ t23A : Option Addr, ∃ t23N : Nat, ∃ t23C : Nat, w6.cell? ⟨b3, 0, none⟩ = some (.slice t23A t23N t23C) ∧ ∃ t23A1 : Option Addr, ∃ t23N1 : Nat, ∃ t23C1 : Nat, w6.cell? ⟨b3, 1, none⟩ = some (.slice t23A1 t23N1 t23C1) ∧ ∃ t23A2 : Option Addr, ∃ t23N2 : Nat, ∃ t23C2 : Nat, w6.cell? ⟨b3, 2, none⟩ = some (.slice t23A2 t23N2 t23C2) ∧ 
 storeC w6 b2 0 [.slice t23A t23N t23C, .slice t23A1 t23N1 t23C1, .slice t23A2 t23N2 t23C2] fun w7 =>
 ∃ rA : Option Addr, ∃ rN : Nat, ∃ rC : Nat, w7.cell? ⟨b2, 0, none⟩ = some (.slice rA rN rC) ∧ ∃ rA1 : Option Addr, ∃ rN1 : Nat, ∃ rC1 : Nat, w7.cell? ⟨b2, 1, none⟩ = some (.slice rA1 rN1 rC1) ∧ ∃ rA2 : Option Addr, ∃ rN2 : Nat, ∃ rC2 : Nat, w7.cell? ⟨b2, 2, none⟩ = some (.slice rA2 rN2 rC2) ∧ 
 R (.tuple #[.agg #[.slice rA rN rC, .slice rA1 rN1 rC1, .slice rA2 rN2 rC2], .int .i64 0]) w7)) (
 ∃ t25 : Int, w3.cell? ⟨b1, 1, none⟩ = some (.int .i64 t25) ∧
 br (decide (t25 < 0)) (
 ∃ t35A : Option Addr, ∃ t35N : Nat, ∃ t35C : Nat, w3.cell? ⟨b, 0, none⟩ = some (.slice t35A t35N t35C) ∧ ∃ t35A1 : Option Addr, ∃ t35N1 : Nat, ∃ t35C1 : Nat, w3.cell? ⟨b, 1, none⟩ = some (.slice t35A1 t35N1 t35C1) ∧ ∃ t35A2 : Option Addr, ∃ t35N2 : Nat, ∃ t35C2 : Nat, w3.cell? ⟨b, 2, none⟩ = some (.slice t35A2 t35N2 t35C2) ∧ 
 storeC w3 b2 0 [.slice t35A t35N t35C, .slice t35A1 t35N1 t35C1, .slice t35A2 t35N2 t35C2] fun w8 =>
 purlinref17_Do.K0 R b2 w8) (
 ∃ t29 : Int, w3.cell? ⟨b1, 1, none⟩ = some (.int .i64 t29) ∧
 ∃ t31A : Option Addr, ∃ t31N : Nat, ∃ t31C : Nat, w3.cell? ⟨b, 1, none⟩ = some (.slice t31A t31N t31C) ∧
 br (decide (t29 ≥ ((t31N : Nat) : Int))) (
 ∃ t35A3 : Option Addr, ∃ t35N3 : Nat, ∃ t35C3 : Nat, w3.cell? ⟨b, 0, none⟩ = some (.slice t35A3 t35N3 t35C3) ∧ ∃ t35A4 : Option Addr, ∃ t35N4 : Nat, ∃ t35C4 : Nat, w3.cell? ⟨b, 1, none⟩ = some (.slice t35A4 t35N4 t35C4) ∧ ∃ t35A5 : Option Addr, ∃ t35N5 : Nat, ∃ t35C5 : Nat, w3.cell? ⟨b, 2, none⟩ = some (.slice t35A5 t35N5 t35C5) ∧ 
 storeC w3 b2 0 [.slice t35A3 t35N3 t35C3, .slice t35A4 t35N4 t35C4, .slice t35A5 t35N5 t35C5] fun w10 =>
 purlinref17_Do.K0 R b2 w10) (
 ∃ t37 : Int, w3.cell? ⟨b1, 0, none⟩ = some (.int .i64 t37) ∧
 br (t37 == 6) (
 ∃ t41 : Int, w3.cell? ⟨b1, 2, none⟩ = some (.int .i64 t41) ∧
 br (decide (t41 < 0)) (
 ∃ t49A : Option Addr, ∃ t49N : Nat, ∃ t49C : Nat, w3.cell? ⟨b, 0, none⟩ = some (.slice t49A t49N t49C) ∧ ∃ t49A1 : Option Addr, ∃ t49N1 : Nat, ∃ t49C1 : Nat, w3.cell? ⟨b, 1, none⟩ = some (.slice t49A1 t49N1 t49C1) ∧ ∃ t49A2 : Option Addr, ∃ t49N2 : Nat, ∃ t49C2 : Nat, w3.cell? ⟨b, 2, none⟩ = some (.slice t49A2 t49N2 t49C2) ∧ 
 storeC w3 b2 0 [.slice t49A t49N t49C, .slice t49A1 t49N1 t49C1, .slice t49A2 t49N2 t49C2] fun w11 =>
 purlinref17_Do.K1 R b2 w11) (
 ∃ t45 : Int, w3.cell? ⟨b1, 2, none⟩ = some (.int .i64 t45) ∧
 br (decide (t45 > 63)) (
 ∃ t49A3 : Option Addr, ∃ t49N3 : Nat, ∃ t49C3 : Nat, w3.cell? ⟨b, 0, none⟩ = some (.slice t49A3 t49N3 t49C3) ∧ ∃ t49A4 : Option Addr, ∃ t49N4 : Nat, ∃ t49C4 : Nat, w3.cell? ⟨b, 1, none⟩ = some (.slice t49A4 t49N4 t49C4) ∧ ∃ t49A5 : Option Addr, ∃ t49N5 : Nat, ∃ t49C5 : Nat, w3.cell? ⟨b, 2, none⟩ = some (.slice t49A5 t49N5 t49C5) ∧ 
 storeC w3 b2 0 [.slice t49A3 t49N3 t49C3, .slice t49A4 t49N4 t49C4, .slice t49A5 t49N5 t49C5] fun w13 =>
 purlinref17_Do.K1 R b2 w13) (
 purlinref17_Do.K8 R b b1 b2 w3))) (
 purlinref17_Do.K8 R b b1 b2 w3))))

theorem purlinref17_Do.vc (tA : Option Addr) (tN : Nat) (tC : Nat) (tA1 : Option Addr) (tN1 : Nat) (tC1 : Nat) (tA2 : Option Addr) (tN2 : Nat) (tC2 : Nat) (c : Int) (c1 : Int) (c2 : Int) (w : World) (R : Value → World → Prop) : fnVC Try.prog purlinref17_Do.A Try.f24 [.agg #[.slice tA tN tC, .slice tA1 tN1 tC1, .slice tA2 tN2 tC2], .agg #[.int .i64 c, .int .i64 c1, .int .i64 c2]] w R = purlinref17_Do.F tA tN tC tA1 tN1 tC1 tA2 tN2 tC2 c c1 c2 w R := by kernel_rfl
theorem purlinref17_Do.calls (tA : Option Addr) (tN : Nat) (tC : Nat) (tA1 : Option Addr) (tN1 : Nat) (tC1 : Nat) (tA2 : Option Addr) (tN2 : Nat) (tC2 : Nat) (c : Int) (c1 : Int) (c2 : Int) (w : World) (R : Value → World → Prop) (h : purlinref17_Do.F tA tN tC tA1 tN1 tC1 tA2 tN2 tC2 c c1 c2 w R) : Calls Try.prog 24 #[.agg #[.slice tA tN tC, .slice tA1 tN1 tC1, .slice tA2 tN2 tC2], .agg #[.int .i64 c, .int .i64 c1, .int .i64 c2]] w (Ret R) :=
  calls_of_vc mixed Try.func24 (Eq.mpr (purlinref17_Do.vc tA tN tC tA1 tN1 tC1 tA2 tN2 tC2 c c1 c2 w R) h)

/-! ### purlin/purlinref17.last: function 63 -/
def purlinref17_last.A : Ann where
  sched := fun i => match i with
    | _ => none
  loop := fun i => match i with
    | 3 => some [(5, some (.one (.int .i64))), (6, some (.one (.int .i64))), (7, none), (8, none), (9, none), (10, none), (11, none), (12, none), (13, none), (14, none), (15, none), (16, none), (17, none), (18, none), (19, none), (20, none), (21, none)]
    | _ => none

def purlinref17_last.L0 (i : Int) (R : Value → World → Prop) (b : Nat) (at1 : Int) (k : Int) (w2 : World) (Nx0 : Int → Int → World → Prop) : Prop :=
 ∃ t9A : Option Addr, ∃ t9N : Nat, ∃ t9C : Nat, w2.cell? ⟨b, 2, none⟩ = some (.slice t9A t9N t9C) ∧
 br (decide (k < ((t9N : Nat) : Int))) (
 ∃ t15A : Option Addr, ∃ t15N : Nat, ∃ t15C : Nat, w2.cell? ⟨b, 2, none⟩ = some (.slice t15A t15N t15C) ∧
 0 ≤ (k : Int) ∧ k < ((t15N : Nat) : Int) ∧ okP t15A (
 ∃ t18 : Int, w2.cell? ⟨(pb t15A), po t15A + k.toNat * 1, none⟩ = some (.int .i64 t18) ∧
 br (t18 == i) (
 Nx0 k (IntKind.wrap .i64 (k + 1)) w2) (
 Nx0 at1 (IntKind.wrap .i64 (k + 1)) w2))) (
 R (.int .i64 at1) w2)

def purlinref17_last.F (tA : Option Addr) (tN : Nat) (tC : Nat) (tA1 : Option Addr) (tN1 : Nat) (tC1 : Nat) (tA2 : Option Addr) (tN2 : Nat) (tC2 : Nat) (i : Int) (w : World) (R : Value → World → Prop) : Prop :=
 newBlk w (.cells #[.slice tA tN tC, .slice tA1 tN1 tC1, .slice tA2 tN2 tC2] 42 (0, 0)) fun b w1 =>
 ∃ I : Nat → Int → Int → World → Prop, (∃ n, I n (-1) 0 w1) ∧ ∀ (n9 : Nat) (dead : Nat → Value) (w2 : World) (at1 : Int) (k : Int), I n9 at1 k w2 →
 purlinref17_last.L0 i R b at1 k w2 (fun x0 x1 w9 => ∃ m, m < n9 ∧ I m x0 x1 w9)

theorem purlinref17_last.vc (tA : Option Addr) (tN : Nat) (tC : Nat) (tA1 : Option Addr) (tN1 : Nat) (tC1 : Nat) (tA2 : Option Addr) (tN2 : Nat) (tC2 : Nat) (i : Int) (w : World) (R : Value → World → Prop) : fnVC Try.prog purlinref17_last.A Try.f63 [.agg #[.slice tA tN tC, .slice tA1 tN1 tC1, .slice tA2 tN2 tC2], .int .i64 i] w R = purlinref17_last.F tA tN tC tA1 tN1 tC1 tA2 tN2 tC2 i w R := by kernel_rfl
theorem purlinref17_last.calls (tA : Option Addr) (tN : Nat) (tC : Nat) (tA1 : Option Addr) (tN1 : Nat) (tC1 : Nat) (tA2 : Option Addr) (tN2 : Nat) (tC2 : Nat) (i : Int) (w : World) (R : Value → World → Prop) (h : purlinref17_last.F tA tN tC tA1 tN1 tC1 tA2 tN2 tC2 i w R) : Calls Try.prog 63 #[.agg #[.slice tA tN tC, .slice tA1 tN1 tC1, .slice tA2 tN2 tC2], .int .i64 i] w (Ret R) :=
  calls_of_vc mixed Try.func63 (Eq.mpr (purlinref17_last.vc tA tN tC tA1 tN1 tC1 tA2 tN2 tC2 i w R) h)

/-! ### purlin/purlinref17.Order: function 31 -/
def purlinref17_Order.A : Ann where
  sched := fun i => match i with
    | _ => none
  loop := fun i => match i with
    | 2 => some [(2, none), (3, some (.one (.slice))), (4, none), (5, none), (6, none), (8, none), (9, none), (10, none), (11, none), (12, none), (13, none), (14, none), (15, none), (16, none), (17, none), (18, none), (19, none), (20, none), (21, none), (22, none), (23, none), (24, none), (25, none), (26, none), (27, none), (28, none), (29, none)]
    | _ => none

def purlinref17_Order.L0 (R : Value → World → Prop) (b : Nat) (outA : Option Addr) (outN : Nat) (outC : Nat) (w3 : World) (Nx0 : Option Addr → Nat → Nat → World → Prop) : Prop :=
 ∃ t9A : Option Addr, ∃ t9N : Nat, ∃ t9C : Nat, w3.cell? ⟨b, 0, none⟩ = some (.slice t9A t9N t9C) ∧ ∃ t9A1 : Option Addr, ∃ t9N1 : Nat, ∃ t9C1 : Nat, w3.cell? ⟨b, 1, none⟩ = some (.slice t9A1 t9N1 t9C1) ∧ ∃ t9A2 : Option Addr, ∃ t9N2 : Nat, ∃ t9C2 : Nat, w3.cell? ⟨b, 2, none⟩ = some (.slice t9A2 t9N2 t9C2) ∧ 
 Calls Try.prog 27 #[.agg #[.slice t9A t9N t9C, .slice t9A1 t9N1 t9C1, .slice t9A2 t9N2 t9C2]] w3 (fun e w4 => ∃ t10 : Int, ∃ t101 : Bool, e = .returned (.tuple #[.int .i64 t10, .bool t101]) ∧
 br (!t101) (
 R (.slice outA outN outC) w4) (
 newBlk w4 (.cells #[.int .i64 t10] 3 (0, 0)) fun b2 w5 =>
 ∃ t19A : Option Addr, ∃ t19N : Nat, ∃ t19C : Nat, ∃ w6 : World, (Builtin.append_ #[29, 29] 29 #[.slice outA outN outC, .slice (some ⟨b2, 0, none⟩) 1 1]).run Try.prog w5 = .ok (.slice t19A t19N t19C) w6 ∧
 newBlk w6 (.cells #[] 60 (0, 0)) fun b3 w7 =>
 ∃ t22A : Option Addr, ∃ t22N : Nat, ∃ t22C : Nat, w7.cell? ⟨b, 1, none⟩ = some (.slice t22A t22N t22C) ∧
 ∃ t23A : Option Addr, ∃ t23N : Nat, ∃ t23C : Nat, ∃ w8 : World, (Builtin.append_ #[40, 40] 40 #[.slice (some ⟨b3, 0, none⟩) 0 0, .slice t22A t22N t22C]).run Try.prog w7 = .ok (.slice t23A t23N t23C) w8 ∧
 0 ≤ (t10 : Int) ∧ t10 < ((t23N : Nat) : Int) ∧ okP t23A (
 storeC w8 (pb t23A) (po t23A + t10.toNat * 3) [.int .i64 2] fun w9 =>
 storeC w9 b 1 [.slice t23A t23N t23C] fun w10 =>
 Nx0 t19A t19N t19C w10)))

def purlinref17_Order.F (tA : Option Addr) (tN : Nat) (tC : Nat) (tA1 : Option Addr) (tN1 : Nat) (tC1 : Nat) (tA2 : Option Addr) (tN2 : Nat) (tC2 : Nat) (w : World) (R : Value → World → Prop) : Prop :=
 newBlk w (.cells #[.slice tA tN tC, .slice tA1 tN1 tC1, .slice tA2 tN2 tC2] 42 (0, 0)) fun b w1 =>
 newBlk w1 (.cells #[] 3 (0, 0)) fun b1 w2 =>
 ∃ I : Nat → Option Addr → Nat → Nat → World → Prop, (∃ n, I n (some ⟨b1, 0, none⟩) 0 0 w2) ∧ ∀ (n9 : Nat) (dead : Nat → Value) (w3 : World) (outA : Option Addr) (outN : Nat) (outC : Nat), I n9 outA outN outC w3 →
 purlinref17_Order.L0 R b outA outN outC w3 (fun x0 x1 x2 w9 => ∃ m, m < n9 ∧ I m x0 x1 x2 w9)

theorem purlinref17_Order.vc (tA : Option Addr) (tN : Nat) (tC : Nat) (tA1 : Option Addr) (tN1 : Nat) (tC1 : Nat) (tA2 : Option Addr) (tN2 : Nat) (tC2 : Nat) (w : World) (R : Value → World → Prop) : fnVC Try.prog purlinref17_Order.A Try.f31 [.agg #[.slice tA tN tC, .slice tA1 tN1 tC1, .slice tA2 tN2 tC2]] w R = purlinref17_Order.F tA tN tC tA1 tN1 tC1 tA2 tN2 tC2 w R := by kernel_rfl
theorem purlinref17_Order.calls (tA : Option Addr) (tN : Nat) (tC : Nat) (tA1 : Option Addr) (tN1 : Nat) (tC1 : Nat) (tA2 : Option Addr) (tN2 : Nat) (tC2 : Nat) (w : World) (R : Value → World → Prop) (h : purlinref17_Order.F tA tN tC tA1 tN1 tC1 tA2 tN2 tC2 w R) : Calls Try.prog 31 #[.agg #[.slice tA tN tC, .slice tA1 tN1 tC1, .slice tA2 tN2 tC2]] w (Ret R) :=
  calls_of_vc mixed Try.func31 (Eq.mpr (purlinref17_Order.vc tA tN tC tA1 tN1 tC1 tA2 tN2 tC2 w R) h)

/-! ### purlin/purlinref17.Running: function 27 -/
def purlinref17_Running.A : Ann where
  sched := fun i => match i with
    | 9 => some ((some 8388608), .still 0 false 0 <| .still 1 false 1 <| .still 2 false 3 <| .still 3 false 7 <| .still 4 false 15 <| .still 5 false 31 <| .still 6 false 63 <| .still 7 false 127 <| .still 8 false 255 <| .still 9 false 2559 <| .still 10 false 3071 <| .still 11 false 2047 <| .still 12 false 4095 <| .still 13 false 8191 <| .still 14 false 16383 <| .still 15 false 32767 <| .still 16 false 65535 <| .still 17 false 131071 <| .still 18 false 7077887 <| .still 19 false 6815743 <| .still 22 true 4194303 <| .still 21 true 6291455 <| .eff 20 <| .eff 23 <| .still 24 false 16777215 <| .still 25 false 33554431 <| .still 26 false 67108863 <| .done)
    | _ => none
  loop := fun i => match i with
    | 2 => some [(2, none), (3, none), (4, some (.one (.int .i64))), (5, none), (6, none), (7, none), (8, none), (9, none), (10, none), (11, none), (12, none), (13, none), (14, none), (15, none), (16, none), (17, none), (18, none), (19, none), (20, none), (21, none), (22, none), (23, none), (24, none), (25, none), (26, none), (27, none), (28, none), (29, none), (30, none), (31, none), (32, none), (33, none), (34, none), (35, none), (36, none), (37, none), (38, none), (39, none), (40, none), (41, none), (42, none), (43, none), (44, none), (45, none), (46, none), (47, none), (48, none), (49, none), (50, none), (51, none), (52, none), (53, none), (54, none)]
    | 6 => some [(5, some (.one (.int .i64))), (6, some (.one (.int .i64))), (7, none), (12, none), (13, none), (14, none), (15, none), (16, none), (17, none), (18, none), (19, none), (20, none), (21, none), (22, none), (23, none), (24, none), (25, none), (26, none), (27, none), (28, none), (29, none), (30, none), (31, none), (32, none), (33, none), (34, none), (35, none), (36, none), (37, none), (38, none), (39, none), (40, none), (41, none), (42, none), (43, none), (44, none), (45, none), (46, none), (47, none), (48, none), (49, none), (50, none), (51, none)]
    | _ => none

def purlinref17_Running.L1 (R : Value → World → Prop) (b : Nat) (prio : Int) (Nx0 : Int → World → Prop) (best : Int) (i : Int) (w3 : World) (Nx1 : Int → Int → World → Prop) : Prop :=
 ∃ t14A : Option Addr, ∃ t14N : Nat, ∃ t14C : Nat, w3.cell? ⟨b, 1, none⟩ = some (.slice t14A t14N t14C) ∧
 br (decide (i < ((t14N : Nat) : Int))) (
 ∃ t20A : Option Addr, ∃ t20N : Nat, ∃ t20C : Nat, w3.cell? ⟨b, 1, none⟩ = some (.slice t20A t20N t20C) ∧
 0 ≤ (i : Int) ∧ i < ((t20N : Nat) : Int) ∧ okP t20A (
 ∃ t23 : Int, w3.cell? ⟨(pb t20A), po t20A + i.toNat * 3, none⟩ = some (.int .i64 t23) ∧ ∃ t231 : Bool, w3.cell? ⟨(pb t20A), po t20A + i.toNat * 3 + 1, none⟩ = some (.bool t231) ∧ ∃ t232 : Int, w3.cell? ⟨(pb t20A), po t20A + i.toNat * 3 + 2, none⟩ = some (.int .i64 t232) ∧ 
 newBlk w3 (.cells #[.int .i64 0, .bool false, .int .i64 0] 60 (0, 0)) fun b1 w4 =>
 storeC w4 b1 0 [.int .i64 t23, .bool t231, .int .i64 t232] fun w5 =>
 ∃ S : World → Prop, S w5.drew ∧ drawC w5 fun w6 =>
 ∃ t25 : Int, w6.cell? ⟨b1, 0, none⟩ = some (.int .i64 t25) ∧
 br (t25 == 1) (
 ∃ t29 : Bool, w6.cell? ⟨b1, 1, none⟩ = some (.bool t29) ∧
 br (!t29) (
 ∃ t34 : Int, w6.cell? ⟨b1, 2, none⟩ = some (.int .i64 t34) ∧
 br (t34 == prio) (
 br (decide (best < 0)) (
 Nx1 i (IntKind.wrap .i64 (i + 1)) w6) (
 ∃ t42A : Option Addr, ∃ t42N : Nat, ∃ t42C : Nat, w6.cell? ⟨b, 0, none⟩ = some (.slice t42A t42N t42C) ∧ ∃ t42A1 : Option Addr, ∃ t42N1 : Nat, ∃ t42C1 : Nat, w6.cell? ⟨b, 1, none⟩ = some (.slice t42A1 t42N1 t42C1) ∧ ∃ t42A2 : Option Addr, ∃ t42N2 : Nat, ∃ t42C2 : Nat, w6.cell? ⟨b, 2, none⟩ = some (.slice t42A2 t42N2 t42C2) ∧ 
 ∃ t45A : Option Addr, ∃ t45N : Nat, ∃ t45C : Nat, (∀ w9 : World, S w9 → w9.cell? ⟨b, 0, none⟩ = some (.slice t45A t45N t45C)) ∧ ∃ t45A1 : Option Addr, ∃ t45N1 : Nat, ∃ t45C1 : Nat, (∀ w9 : World, S w9 → w9.cell? ⟨b, 1, none⟩ = some (.slice t45A1 t45N1 t45C1)) ∧ ∃ t45A2 : Option Addr, ∃ t45N2 : Nat, ∃ t45C2 : Nat, (∀ w9 : World, S w9 → w9.cell? ⟨b, 2, none⟩ = some (.slice t45A2 t45N2 t45C2)) ∧ 
 Calls Try.prog 63 #[.agg #[.slice t42A t42N t42C, .slice t42A1 t42N1 t42C1, .slice t42A2 t42N2 t42C2], .int .i64 i] w6 (fun e w8 => ∃ t44 : Int, e = .returned (.int .i64 t44) ∧
 S w8 ∧ Calls Try.prog 63 #[.agg #[.slice t45A t45N t45C, .slice t45A1 t45N1 t45C1, .slice t45A2 t45N2 t45C2], .int .i64 best] w8 (fun e w9 => ∃ t47 : Int, e = .returned (.int .i64 t47) ∧
 br (decide (t44 < t47)) (
 Nx1 i (IntKind.wrap .i64 (i + 1)) w9) (
 Nx1 best (IntKind.wrap .i64 (i + 1)) w9))))) (
 Nx1 best (IntKind.wrap .i64 (i + 1)) w6)) (
 Nx1 best (IntKind.wrap .i64 (i + 1)) w6)) (
 Nx1 best (IntKind.wrap .i64 (i + 1)) w6))) (
 br (decide (best ≥ 0)) (
 R (.tuple #[.int .i64 best, .bool true]) w3) (
 Nx0 (IntKind.wrap .i64 (prio - 1)) w3))

def purlinref17_Running.L0 (R : Value → World → Prop) (b : Nat) (dead : Nat → Value) (prio : Int) (w2 : World) (Nx0 : Int → World → Prop) : Prop :=
 br (decide (prio ≥ 0)) (
 ∃ I : Nat → Int → Int → World → Prop, (∃ n, I n (-1) 0 w2) ∧ ∀ (n9 : Nat) (dead : Nat → Value) (w3 : World) (best : Int) (i : Int), I n9 best i w3 →
 purlinref17_Running.L1 R b prio Nx0 best i w3 (fun x0 x1 w9 => ∃ m, m < n9 ∧ I m x0 x1 w9)) (
 R (.tuple #[.int .i64 0, .bool false]) w2)

def purlinref17_Running.F (tA : Option Addr) (tN : Nat) (tC : Nat) (tA1 : Option Addr) (tN1 : Nat) (tC1 : Nat) (tA2 : Option Addr) (tN2 : Nat) (tC2 : Nat) (w : World) (R : Value → World → Prop) : Prop :=
 newBlk w (.cells #[.slice tA tN tC, .slice tA1 tN1 tC1, .slice tA2 tN2 tC2] 42 (0, 0)) fun b w1 =>
 ∃ I : Nat → Int → World → Prop, (∃ n, I n 63 w1) ∧ ∀ (n9 : Nat) (dead : Nat → Value) (w2 : World) (prio : Int), I n9 prio w2 →
 purlinref17_Running.L0 R b dead prio w2 (fun x0 w9 => ∃ m, m < n9 ∧ I m x0 w9)

theorem purlinref17_Running.vc (tA : Option Addr) (tN : Nat) (tC : Nat) (tA1 : Option Addr) (tN1 : Nat) (tC1 : Nat) (tA2 : Option Addr) (tN2 : Nat) (tC2 : Nat) (w : World) (R : Value → World → Prop) : fnVC Try.prog purlinref17_Running.A Try.f27 [.agg #[.slice tA tN tC, .slice tA1 tN1 tC1, .slice tA2 tN2 tC2]] w R = purlinref17_Running.F tA tN tC tA1 tN1 tC1 tA2 tN2 tC2 w R := by kernel_rfl
theorem purlinref17_Running.calls (tA : Option Addr) (tN : Nat) (tC : Nat) (tA1 : Option Addr) (tN1 : Nat) (tC1 : Nat) (tA2 : Option Addr) (tN2 : Nat) (tC2 : Nat) (w : World) (R : Value → World → Prop) (h : purlinref17_Running.F tA tN tC tA1 tN1 tC1 tA2 tN2 tC2 w R) : Calls Try.prog 27 #[.agg #[.slice tA tN tC, .slice tA1 tN1 tC1, .slice tA2 tN2 tC2]] w (Ret R) :=
  calls_of_vc mixed Try.func27 (Eq.mpr (purlinref17_Running.vc tA tN tC tA1 tN1 tC1 tA2 tN2 tC2 w R) h)

end Go.Proofs.Ytecacohkkdhphaa
