/- Printed by vcgen.py: of each function of this text its weakest precondition as a formula, and that it is one. Conditions: none. -/
import Derived.Test.YtgkbokhmmoemfaaVcCode
import Derived.Test.YtgkbokhmmoemfaaVcMem
import Derived.Test.YtgkbokhmmoemfaaChecked
namespace Go.Proofs.Ytgkbokhmmoemfaa
open Go.Vc
set_option linter.unusedVariables false
set_option maxRecDepth 100000

/-! ### purlin/purlinlaw18.awake: function 14 -/
def purlinlaw18_awake.A : Ann where
  sched := fun i => match i with
    | _ => none
  loop := fun i => match i with
    | _ => none

def purlinlaw18_awake.F (w : World) (R : Value → World → Prop) : Prop :=
 Calls Try.prog 12 #[.int .i64 2] w (fun e w1 => ∃ t13P : Option Addr, ∃ t13 : Int, e = .returned (.tuple #[.pointer t13P, .int .i64 t13]) ∧
 br (t13 != 0) (
 R (.bool false) w1) (
 br ((t13P : Option Addr).isNone) (
 R (.bool false) w1) (
 newBlk w1 (.cells #[.int .i64 1, .int .i64 0, .int .i64 0, .int .u8 0, .int .u8 0, .int .i64 2, .int .i64 7, .int .i64 0, .int .u8 0, .int .u8 0, .int .i64 3, .int .i64 0, .int .i64 0, .int .u8 0, .int .u8 0] 34 (0, 0)) fun b w2 =>
 Calls Try.prog 15 #[.pointer t13P, .slice (some ⟨b, 0, none⟩) 3 3] w2 (fun e w3 => e = .returned (.tuple #[]) ∧
 Calls Try.prog 18 #[.pointer t13P] w3 (fun e w4 => ∃ t29A : Option Addr, ∃ t29N : Nat, ∃ t29C : Nat, e = .returned (.slice t29A t29N t29C) ∧
 Calls Try.prog 24 #[.agg #[.int .u8 0, .int .u8 1, .int .u8 2], .int .i64 1] w4 (fun e w5 => ∃ t32 : Bool, ∃ t321 : Bool, ∃ t322 : Bool, ∃ t323 : Int, e = .returned (.tuple #[.bool t32, .bool t321, .bool t322, .int .i64 t323]) ∧
 Calls Try.prog 24 #[.agg #[.int .u8 0, .int .u8 1, .int .u8 2], .int .i64 3] w5 (fun e w6 => ∃ t39 : Bool, ∃ t391 : Bool, ∃ t392 : Bool, ∃ t393 : Int, e = .returned (.tuple #[.bool t39, .bool t391, .bool t392, .int .i64 t393]) ∧
 br (((t29N : Nat) : Int) == 2) (
 0 ≤ (0 : Int) ∧ 0 < ((t29N : Nat) : Int) ∧ okP t29A (
 ∃ t51 : Int, w6.cell? ⟨(pb t29A), po t29A, none⟩ = some (.int .i64 t51) ∧
 br (t51 == 2) (
 0 ≤ (1 : Int) ∧ 1 < ((t29N : Nat) : Int) ∧ okP t29A (
 ∃ t58 : Int, w6.cell? ⟨(pb t29A), po t29A + 5, none⟩ = some (.int .i64 t58) ∧
 br (t58 == 3) (
 Calls Try.prog 20 #[.pointer t13P] w6 (fun e w7 => ∃ t63 : Int, e = .returned (.int .i64 t63) ∧
 br (t63 == 1) (
 Calls Try.prog 22 #[.pointer t13P, .int .i64 7] w7 (fun e w8 => ∃ t68A : Option Addr, ∃ t68N : Nat, ∃ t68C : Nat, e = .returned (.slice t68A t68N t68C) ∧
 br (((t68N : Nat) : Int) == 1) (
 br t321 (
 br (!t322) (
 br (t323 == 0) (
 R (.bool (t393 == 181)) w8) (
 R (.bool false) w8)) (
 R (.bool false) w8)) (
 R (.bool false) w8)) (
 R (.bool false) w8))) (
 R (.bool false) w7))) (
 R (.bool false) w6))) (
 R (.bool false) w6))) (
 R (.bool false) w6))))))))

theorem purlinlaw18_awake.vc (w : World) (R : Value → World → Prop) : fnVC Try.prog purlinlaw18_awake.A Try.f14 [] w R = purlinlaw18_awake.F w R := by kernel_rfl
theorem purlinlaw18_awake.calls (w : World) (R : Value → World → Prop) (h : purlinlaw18_awake.F w R) : Calls Try.prog 14 #[] w (Ret R) :=
  calls_of_vc mixed Try.func14 (Eq.mpr (purlinlaw18_awake.vc w R) h)

/-! ### purlin/purlinlaw18.HealthPlays: function 3 -/
def purlinlaw18_HealthPlays.A : Ann where
  sched := fun i => match i with
    | 11 => some (none, .still 0 false 30 <| .still 1 false 5 <| .still 2 false 3 <| .still 3 false 7 <| .still 4 false 15 <| .eff 5 <| .eff 6 <| .done)
    | 12 => some ((some 412316860416), .still 0 false 4 <| .still 2 true 3 <| .eff 1 <| .eff 3 <| .eff 4 <| .still 5 false 31 <| .still 6 false 63 <| .still 7 false 639 <| .still 9 true 511 <| .eff 8 <| .eff 10 <| .still 11 false 2047 <| .still 12 false 4095 <| .still 13 false 8191 <| .still 14 false 442367 <| .still 15 false 425983 <| .still 18 true 262143 <| .still 17 true 393215 <| .eff 16 <| .eff 19 <| .eff 20 <| .still 21 false 2097151 <| .still 22 false 4194303 <| .still 23 false 8388607 <| .still 24 false 136348434431 <| .still 25 false 135392133119 <| .still 26 false 135358578687 <| .still 27 false 135425687551 <| .still 28 false 135559905279 <| .still 29 false 135828340735 <| .still 32 true 12884901887 <| .still 33 true 8589934591 <| .still 34 true 17179869183 <| .still 35 true 34359738367 <| .still 31 true 135291469823 <| .still 36 true 68719476735 <| .eff 30 <| .eff 37 <| .eff 38 <| .still 39 false 549755813887 <| .still 40 false 1099511627775 <| .done)
    | _ => none
  loop := fun i => match i with
    | 8 => some [(6, none), (11, some (.one (.int .i64))), (38, none), (39, none), (40, none), (41, none), (42, none), (43, none), (44, none), (45, none), (46, none), (47, none), (48, none), (49, none), (50, none), (51, none), (52, none), (53, none), (54, none), (55, none), (56, none), (57, none), (58, none), (59, none), (60, none), (61, none), (62, none), (63, none), (64, none), (65, none), (66, none), (67, none), (68, none), (69, none), (70, none), (71, none), (72, none), (73, none), (74, none), (75, none), (76, none), (77, none), (78, none), (79, none), (80, none), (81, none), (82, none), (83, none), (84, none), (85, none), (86, none), (87, none), (88, none), (89, none), (90, none), (91, none), (92, none), (93, none), (94, none), (95, none), (96, none), (97, none), (98, none), (99, none), (100, none), (101, none)]
    | _ => none

def purlinlaw18_HealthPlays.L0 (entriesA : Option Addr) (entriesN : Nat) (part : Int) (R : Value → World → Prop) (t14P : Option Addr) (b : Nat) (i : Int) (w6 : World) (Nx0 : Int → World → Prop) : Prop :=
 br (decide (i < ((entriesN : Nat) : Int))) (
 br (decide (i < 200)) (
 0 ≤ (i : Int) ∧ i < ((entriesN : Nat) : Int) ∧ okP entriesA (
 ∃ t52 : Int, w6.cell? ⟨(pb entriesA), po entriesA + i.toNat * 5, none⟩ = some (.int .i64 t52) ∧ ∃ t521 : Int, w6.cell? ⟨(pb entriesA), po entriesA + i.toNat * 5 + 1, none⟩ = some (.int .i64 t521) ∧ ∃ t522 : Int, w6.cell? ⟨(pb entriesA), po entriesA + i.toNat * 5 + 2, none⟩ = some (.int .i64 t522) ∧ ∃ t523 : Int, w6.cell? ⟨(pb entriesA), po entriesA + i.toNat * 5 + 3, none⟩ = some (.int .u8 t523) ∧ ∃ t524 : Int, w6.cell? ⟨(pb entriesA), po entriesA + i.toNat * 5 + 4, none⟩ = some (.int .u8 t524) ∧ 
 newBlk w6 (.cells #[.int .i64 t52, .int .i64 t521, .int .i64 t522, .int .u8 t523, .int .u8 t524] 34 (0, 0)) fun b1 w7 =>
 Calls Try.prog 15 #[.pointer t14P, .slice (some ⟨b1, 0, none⟩) 1 1] w7 (fun e w8 => e = .returned (.tuple #[]) ∧
 drawC w8 fun w9 =>
 ∃ t55 : Int, w9.cell? ⟨b, 0, none⟩ = some (.int .i64 t55) ∧ ∃ t55A : Option Addr, ∃ t55N : Nat, ∃ t55C : Nat, w9.cell? ⟨b, 1, none⟩ = some (.slice t55A t55N t55C) ∧ 
 0 ≤ (i : Int) ∧ i < ((entriesN : Nat) : Int) ∧ okP entriesA (
 ∃ t59 : Int, w9.cell? ⟨(pb entriesA), po entriesA + i.toNat * 5, none⟩ = some (.int .i64 t59) ∧ ∃ t591 : Int, w9.cell? ⟨(pb entriesA), po entriesA + i.toNat * 5 + 1, none⟩ = some (.int .i64 t591) ∧ ∃ t592 : Int, w9.cell? ⟨(pb entriesA), po entriesA + i.toNat * 5 + 2, none⟩ = some (.int .i64 t592) ∧ ∃ t593 : Int, w9.cell? ⟨(pb entriesA), po entriesA + i.toNat * 5 + 3, none⟩ = some (.int .u8 t593) ∧ ∃ t594 : Int, w9.cell? ⟨(pb entriesA), po entriesA + i.toNat * 5 + 4, none⟩ = some (.int .u8 t594) ∧ 
 Calls Try.prog 16 #[.agg #[.int .i64 t55, .slice t55A t55N t55C], .agg #[.int .i64 t59, .int .i64 t591, .int .i64 t592, .int .u8 t593, .int .u8 t594]] w9 (fun e w10 => ∃ t60 : Int, ∃ t60A : Option Addr, ∃ t60N : Nat, ∃ t60C : Nat, e = .returned (.agg #[.int .i64 t60, .slice t60A t60N t60C]) ∧
 storeC w10 b 0 [.int .i64 t60, .slice t60A t60N t60C] fun w11 =>
 ∃ S : World → Prop, S w11.drew ∧ drawC w11 fun w12 =>
 ∃ t63 : Int, (∀ w9 : World, S w9 → w9.cell? ⟨b, 0, none⟩ = some (.int .i64 t63)) ∧ ∃ t63A : Option Addr, ∃ t63N : Nat, ∃ t63C : Nat, (∀ w9 : World, S w9 → w9.cell? ⟨b, 1, none⟩ = some (.slice t63A t63N t63C)) ∧ 
 Calls Try.prog 18 #[.pointer t14P] w12 (fun e w13 => ∃ t62A : Option Addr, ∃ t62N : Nat, ∃ t62C : Nat, e = .returned (.slice t62A t62N t62C) ∧
 S w13 ∧ Calls Try.prog 19 #[.agg #[.int .i64 t63, .slice t63A t63N t63C]] w13 (fun e w14 => ∃ t64A : Option Addr, ∃ t64N : Nat, ∃ t64C : Nat, e = .returned (.slice t64A t64N t64C) ∧
 S w14 ∧ Calls Try.prog 17 #[.slice t62A t62N t62C, .slice t64A t64N t64C] w14 (fun e w15 => ∃ t65 : Bool, e = .returned (.bool t65) ∧
 S w15 ∧ br (!t65) (
 R (.bool false) w15) (
 ∃ t70 : Int, (∀ w9 : World, S w9 → w9.cell? ⟨b, 0, none⟩ = some (.int .i64 t70)) ∧ ∃ t70A : Option Addr, ∃ t70N : Nat, ∃ t70C : Nat, (∀ w9 : World, S w9 → w9.cell? ⟨b, 1, none⟩ = some (.slice t70A t70N t70C)) ∧ 
 Calls Try.prog 20 #[.pointer t14P] w15 (fun e w16 => ∃ t69 : Int, e = .returned (.int .i64 t69) ∧
 S w16 ∧ Calls Try.prog 21 #[.agg #[.int .i64 t70, .slice t70A t70N t70C]] w16 (fun e w17 => ∃ t71 : Int, e = .returned (.int .i64 t71) ∧
 S w17 ∧ br (t69 != t71) (
 R (.bool false) w17) (
 ∃ t78 : Int, (∀ w9 : World, S w9 → w9.cell? ⟨b, 0, none⟩ = some (.int .i64 t78)) ∧ ∃ t78A : Option Addr, ∃ t78N : Nat, ∃ t78C : Nat, (∀ w9 : World, S w9 → w9.cell? ⟨b, 1, none⟩ = some (.slice t78A t78N t78C)) ∧ 
 Calls Try.prog 22 #[.pointer t14P, .int .i64 part] w17 (fun e w18 => ∃ t77A : Option Addr, ∃ t77N : Nat, ∃ t77C : Nat, e = .returned (.slice t77A t77N t77C) ∧
 S w18 ∧ Calls Try.prog 23 #[.agg #[.int .i64 t78, .slice t78A t78N t78C], .int .i64 part] w18 (fun e w19 => ∃ t80A : Option Addr, ∃ t80N : Nat, ∃ t80C : Nat, e = .returned (.slice t80A t80N t80C) ∧
 S w19 ∧ Calls Try.prog 17 #[.slice t77A t77N t77C, .slice t80A t80N t80C] w19 (fun e w20 => ∃ t81 : Bool, e = .returned (.bool t81) ∧
 S w20 ∧ br (!t81) (
 R (.bool false) w20) (
 0 ≤ (i : Int) ∧ i < ((entriesN : Nat) : Int) ∧ okP entriesA (
 ∃ t90 : Int, w20.cell? ⟨(pb entriesA), po entriesA + i.toNat * 5 + 1, none⟩ = some (.int .i64 t90) ∧
 0 ≤ (i : Int) ∧ i < ((entriesN : Nat) : Int) ∧ okP entriesA (
 ∃ t92 : Int, (∀ w9 : World, S w9 → w9.cell? ⟨b, 0, none⟩ = some (.int .i64 t92)) ∧ ∃ t92A : Option Addr, ∃ t92N : Nat, ∃ t92C : Nat, (∀ w9 : World, S w9 → w9.cell? ⟨b, 1, none⟩ = some (.slice t92A t92N t92C)) ∧ 
 ∃ t97 : Int, (∀ w9 : World, S w9 → w9.cell? ⟨(pb entriesA), po entriesA + i.toNat * 5 + 1, none⟩ = some (.int .i64 t97)) ∧
 Calls Try.prog 22 #[.pointer t14P, .int .i64 t90] w20 (fun e w21 => ∃ t91A : Option Addr, ∃ t91N : Nat, ∃ t91C : Nat, e = .returned (.slice t91A t91N t91C) ∧
 S w21 ∧ Calls Try.prog 23 #[.agg #[.int .i64 t92, .slice t92A t92N t92C], .int .i64 t97] w21 (fun e w22 => ∃ t98A : Option Addr, ∃ t98N : Nat, ∃ t98C : Nat, e = .returned (.slice t98A t98N t98C) ∧
 Calls Try.prog 17 #[.slice t91A t91N t91C, .slice t98A t98N t98C] w22 (fun e w23 => ∃ t99 : Bool, e = .returned (.bool t99) ∧
 br (!t99) (
 R (.bool false) w23) (
 Nx0 (IntKind.wrap .i64 (i + 1)) w23)))))))))))))))))))))) (
 R (.bool true) w6)) (
 R (.bool true) w6)

def purlinlaw18_HealthPlays.F (size : Int) (entriesA : Option Addr) (entriesN : Nat) (entriesC : Nat) (part : Int) (w : World) (R : Value → World → Prop) : Prop :=
 Calls Try.prog 12 #[.int .i64 size] w (fun e w1 => ∃ t14P : Option Addr, ∃ t14 : Int, e = .returned (.tuple #[.pointer t14P, .int .i64 t14]) ∧
 Calls Try.prog 13 #[.int .i64 size] w1 (fun e w2 => ∃ t19 : Int, ∃ t19A : Option Addr, ∃ t19N : Nat, ∃ t19C : Nat, ∃ t191 : Int, e = .returned (.tuple #[.agg #[.int .i64 t19, .slice t19A t19N t19C], .int .i64 t191]) ∧
 newBlk w2 (.cells #[.int .i64 0, .slice none 0 0] 28 (0, 0)) fun b w3 =>
 storeC w3 b 0 [.int .i64 t19, .slice t19A t19N t19C] fun w4 =>
 Calls Try.prog 14 #[] w4 (fun e w5 => ∃ t22 : Bool, e = .returned (.bool t22) ∧
 br (!t22) (
 R (.bool false) w5) (
 br (t14 != t191) (
 R (.bool false) w5) (
 br (!(((t14P : Option Addr).isNone) == (t14 != 0))) (
 R (.bool false) w5) (
 br ((t14P : Option Addr).isNone) (
 R (.bool true) w5) (
 ∃ I : Nat → Int → World → Prop, (∃ n, I n 0 w5) ∧ ∀ (n9 : Nat) (dead : Nat → Value) (w6 : World) (i : Int), I n9 i w6 →
 purlinlaw18_HealthPlays.L0 entriesA entriesN part R t14P b i w6 (fun x0 w9 => ∃ m, m < n9 ∧ I m x0 w9))))))))

theorem purlinlaw18_HealthPlays.vc (size : Int) (entriesA : Option Addr) (entriesN : Nat) (entriesC : Nat) (part : Int) (w : World) (R : Value → World → Prop) : fnVC Try.prog purlinlaw18_HealthPlays.A Try.f3 [.int .i64 size, .slice entriesA entriesN entriesC, .int .i64 part] w R = purlinlaw18_HealthPlays.F size entriesA entriesN entriesC part w R := by kernel_rfl
theorem purlinlaw18_HealthPlays.calls (size : Int) (entriesA : Option Addr) (entriesN : Nat) (entriesC : Nat) (part : Int) (w : World) (R : Value → World → Prop) (h : purlinlaw18_HealthPlays.F size entriesA entriesN entriesC part w R) : Calls Try.prog 3 #[.int .i64 size, .slice entriesA entriesN entriesC, .int .i64 part] w (Ret R) :=
  calls_of_vc mixed Try.func3 (Eq.mpr (purlinlaw18_HealthPlays.vc size entriesA entriesN entriesC part w R) h)

/-! ### purlin/purlinlaw18.HealthActs: function 4 -/
def purlinlaw18_HealthActs.A : Ann where
  sched := fun i => match i with
    | _ => none
  loop := fun i => match i with
    | _ => none

def purlinlaw18_HealthActs.F (acts : Int) (acts1 : Int) (acts2 : Int) (kind : Int) (w : World) (R : Value → World → Prop) : Prop :=
 newBlk w (.cells #[.int .u8 acts, .int .u8 acts1, .int .u8 acts2] 45 (0, 0)) fun b w1 =>
 ∃ t14 : Int, w1.cell? ⟨b, 0, none⟩ = some (.int .u8 t14) ∧ ∃ t141 : Int, w1.cell? ⟨b, 1, none⟩ = some (.int .u8 t141) ∧ ∃ t142 : Int, w1.cell? ⟨b, 2, none⟩ = some (.int .u8 t142) ∧ 
 Calls Try.prog 24 #[.agg #[.int .u8 t14, .int .u8 t141, .int .u8 t142], .int .i64 kind] w1 (fun e w2 => ∃ t16 : Bool, ∃ t161 : Bool, ∃ t162 : Bool, ∃ t163 : Int, e = .returned (.tuple #[.bool t16, .bool t161, .bool t162, .int .i64 t163]) ∧
 ∃ t22 : Int, w2.cell? ⟨b, 0, none⟩ = some (.int .u8 t22) ∧ ∃ t221 : Int, w2.cell? ⟨b, 1, none⟩ = some (.int .u8 t221) ∧ ∃ t222 : Int, w2.cell? ⟨b, 2, none⟩ = some (.int .u8 t222) ∧ 
 Calls Try.prog 25 #[.agg #[.int .u8 t22, .int .u8 t221, .int .u8 t222], .int .i64 kind] w2 (fun e w3 => ∃ t24 : Bool, ∃ t241 : Bool, ∃ t242 : Bool, ∃ t243 : Int, e = .returned (.tuple #[.bool t24, .bool t241, .bool t242, .int .i64 t243]) ∧
 Calls Try.prog 14 #[] w3 (fun e w4 => ∃ t29 : Bool, e = .returned (.bool t29) ∧
 br t29 (
 br (t16 == t24) (
 br (t161 == t241) (
 br (t162 == t242) (
 R (.bool (t163 == t243)) w4) (
 R (.bool false) w4)) (
 R (.bool false) w4)) (
 R (.bool false) w4)) (
 R (.bool false) w4))))

theorem purlinlaw18_HealthActs.vc (acts : Int) (acts1 : Int) (acts2 : Int) (kind : Int) (w : World) (R : Value → World → Prop) : fnVC Try.prog purlinlaw18_HealthActs.A Try.f4 [.agg #[.int .u8 acts, .int .u8 acts1, .int .u8 acts2], .int .i64 kind] w R = purlinlaw18_HealthActs.F acts acts1 acts2 kind w R := by kernel_rfl
theorem purlinlaw18_HealthActs.calls (acts : Int) (acts1 : Int) (acts2 : Int) (kind : Int) (w : World) (R : Value → World → Prop) (h : purlinlaw18_HealthActs.F acts acts1 acts2 kind w R) : Calls Try.prog 4 #[.agg #[.int .u8 acts, .int .u8 acts1, .int .u8 acts2], .int .i64 kind] w (Ret R) :=
  calls_of_vc mixed Try.func4 (Eq.mpr (purlinlaw18_HealthActs.vc acts acts1 acts2 kind w R) h)

/-! ### purlin/purlinlaw18.HealthTogether: function 5 -/
def purlinlaw18_HealthTogether.A : Ann where
  sched := fun i => match i with
    | _ => none
  loop := fun i => match i with
    | 9 => some [(12, some (.one (.int .i64))), (67, none), (68, none), (69, none), (70, none), (71, none), (72, none), (73, none), (74, none), (75, none), (76, none), (77, none), (78, none), (79, none)]
    | 21 => some [(15, some (.one (.int .i64))), (138, none), (139, none), (140, none), (141, none), (142, none), (143, none), (144, none), (145, none), (146, none), (147, none), (148, none), (149, none), (150, none), (151, none)]
    | _ => none

def purlinlaw18_HealthTogether.L1 (R : Value → World → Prop) (t22P : Option Addr) (t27P : Option Addr) (t86A : Option Addr) (t86N : Nat) (i1 : Int) (w27 : World) (Nx1 : Int → World → Prop) : Prop :=
 br (decide (i1 < ((t86N : Nat) : Int))) (
 0 ≤ (i1 : Int) ∧ i1 < ((t86N : Nat) : Int) ∧ okP t86A (
 ∃ t148 : Int, w27.cell? ⟨(pb t86A), po t86A + i1.toNat * 5, none⟩ = some (.int .i64 t148) ∧
 0 ≤ (i1 : Int) ∧ i1 < ((t86N : Nat) : Int) ∧ okP t86A (
 storeC w27 (pb t86A) (po t86A + i1.toNat * 5) [.int .i64 (IntKind.wrap .i64 (t148 + 1))] fun w28 =>
 Nx1 (IntKind.wrap .i64 (i1 + 1)) w28))) (
 Calls Try.prog 18 #[.pointer t22P] w27 (fun e w29 => ∃ t153A : Option Addr, ∃ t153N : Nat, ∃ t153C : Nat, e = .returned (.slice t153A t153N t153C) ∧
 Calls Try.prog 18 #[.pointer t27P] w29 (fun e w30 => ∃ t155A : Option Addr, ∃ t155N : Nat, ∃ t155C : Nat, e = .returned (.slice t155A t155N t155C) ∧
 Calls Try.prog 17 #[.slice t153A t153N t153C, .slice t155A t155N t155C] w30 (fun e w31 => ∃ t156 : Bool, e = .returned (.bool t156) ∧
 R (.bool t156) w31))))

def purlinlaw18_HealthTogether.K0 (R : Value → World → Prop) (t22P : Option Addr) (t27P : Option Addr) (t86A : Option Addr) (t86N : Nat) (t86C : Nat) (t91A : Option Addr) (t91N : Nat) (t91C : Nat) (w24 : World) : Prop :=
 Calls Try.prog 20 #[.pointer t22P] w24 (fun e w25 => ∃ t134 : Int, e = .returned (.int .i64 t134) ∧
 0 ≤ t134 ∧ t134 ≤ ((t91N : Nat) : Int) ∧
 Calls Try.prog 17 #[.slice t86A t86N t86C, .slice (cutBase t91A t134.toNat t91C 5) (t91N - t134.toNat) (t91C - t134.toNat)] w25 (fun e w26 => ∃ t136 : Bool, e = .returned (.bool t136) ∧
 br (!t136) (
 R (.bool false) w26) (
 ∃ I : Nat → Int → World → Prop, (∃ n, I n 0 w26) ∧ ∀ (n9 : Nat) (dead : Nat → Value) (w27 : World) (i1 : Int), I n9 i1 w27 →
 purlinlaw18_HealthTogether.L1 R t22P t27P t86A t86N i1 w27 (fun x0 w9 => ∃ m, m < n9 ∧ I m x0 w9))))

def purlinlaw18_HealthTogether.L0 (size : Int) (aA : Option Addr) (aN : Nat) (aC : Nat) (bA : Option Addr) (bN : Nat) (bC : Nat) (R : Value → World → Prop) (t22P : Option Addr) (t27P : Option Addr) (i : Int) (w10 : World) (Nx0 : Int → World → Prop) : Prop :=
 br (decide (i < ((aN : Nat) : Int))) (
 0 ≤ (i : Int) ∧ i < ((aN : Nat) : Int) ∧ okP aA (
 ∃ t77 : Int, w10.cell? ⟨(pb aA), po aA + i.toNat * 5, none⟩ = some (.int .i64 t77) ∧ ∃ t771 : Int, w10.cell? ⟨(pb aA), po aA + i.toNat * 5 + 1, none⟩ = some (.int .i64 t771) ∧ ∃ t772 : Int, w10.cell? ⟨(pb aA), po aA + i.toNat * 5 + 2, none⟩ = some (.int .i64 t772) ∧ ∃ t773 : Int, w10.cell? ⟨(pb aA), po aA + i.toNat * 5 + 3, none⟩ = some (.int .u8 t773) ∧ ∃ t774 : Int, w10.cell? ⟨(pb aA), po aA + i.toNat * 5 + 4, none⟩ = some (.int .u8 t774) ∧ 
 newBlk w10 (.cells #[.int .i64 t77, .int .i64 t771, .int .i64 t772, .int .u8 t773, .int .u8 t774] 34 (0, 0)) fun b1 w11 =>
 Calls Try.prog 15 #[.pointer t27P, .slice (some ⟨b1, 0, none⟩) 1 1] w11 (fun e w12 => e = .returned (.tuple #[]) ∧
 Nx0 (IntKind.wrap .i64 (i + 1)) w12))) (
 Calls Try.prog 15 #[.pointer t27P, .slice bA bN bC] w10 (fun e w13 => e = .returned (.tuple #[]) ∧
 Calls Try.prog 15 #[.pointer t27P, .slice none 0 0] w13 (fun e w14 => e = .returned (.tuple #[]) ∧
 Calls Try.prog 18 #[.pointer t22P] w14 (fun e w15 => ∃ t86A : Option Addr, ∃ t86N : Nat, ∃ t86C : Nat, e = .returned (.slice t86A t86N t86C) ∧
 newBlk w15 (.cells #[] 34 (0, 0)) fun b2 w16 =>
 ∃ t89A : Option Addr, ∃ t89N : Nat, ∃ t89C : Nat, ∃ w17 : World, (Builtin.append_ #[22, 22] 22 #[.slice (some ⟨b2, 0, none⟩) 0 0, .slice aA aN aC]).run Try.prog w16 = .ok (.slice t89A t89N t89C) w17 ∧
 ∃ t91A : Option Addr, ∃ t91N : Nat, ∃ t91C : Nat, ∃ w18 : World, (Builtin.append_ #[22, 22] 22 #[.slice t89A t89N t89C, .slice bA bN bC]).run Try.prog w17 = .ok (.slice t91A t91N t91C) w18 ∧
 Calls Try.prog 18 #[.pointer t27P] w18 (fun e w19 => ∃ t94A : Option Addr, ∃ t94N : Nat, ∃ t94C : Nat, e = .returned (.slice t94A t94N t94C) ∧
 Calls Try.prog 17 #[.slice t86A t86N t86C, .slice t94A t94N t94C] w19 (fun e w20 => ∃ t95 : Bool, e = .returned (.bool t95) ∧
 br (!t95) (
 R (.bool false) w20) (
 Calls Try.prog 20 #[.pointer t22P] w20 (fun e w21 => ∃ t99 : Int, e = .returned (.int .i64 t99) ∧
 Calls Try.prog 20 #[.pointer t27P] w21 (fun e w22 => ∃ t101 : Int, e = .returned (.int .i64 t101) ∧
 br (t99 != t101) (
 R (.bool false) w22) (
 Calls Try.prog 20 #[.pointer t22P] w22 (fun e w23 => ∃ t108 : Int, e = .returned (.int .i64 t108) ∧
 br (IntKind.wrap .i64 (((t86N : Nat) : Int) + t108) != ((t91N : Nat) : Int)) (
 R (.bool false) w23) (
 br (decide (((t86N : Nat) : Int) > IntKind.wrap .i64 (1 + ((IntKind.wrap .i64 size).tmod 64)))) (
 R (.bool false) w23) (
 Calls Try.prog 20 #[.pointer t22P] w23 (fun e w24 => ∃ t122 : Int, e = .returned (.int .i64 t122) ∧
 br (decide (t122 > 0)) (
 br (decide (((t86N : Nat) : Int) < IntKind.wrap .i64 (1 + ((IntKind.wrap .i64 size).tmod 64)))) (
 R (.bool false) w24) (
 purlinlaw18_HealthTogether.K0 R t22P t27P t86A t86N t86C t91A t91N t91C w24)) (
 purlinlaw18_HealthTogether.K0 R t22P t27P t86A t86N t86C t91A t91N t91C w24)))))))))))))))

def purlinlaw18_HealthTogether.F (size : Int) (aA : Option Addr) (aN : Nat) (aC : Nat) (bA : Option Addr) (bN : Nat) (bC : Nat) (w : World) (R : Value → World → Prop) : Prop :=
 (64 : Int) ≠ 0 ∧
 Calls Try.prog 12 #[.int .i64 (IntKind.wrap .i64 (1 + ((IntKind.wrap .i64 size).tmod 64)))] w (fun e w1 => ∃ t22P : Option Addr, ∃ t22 : Int, e = .returned (.tuple #[.pointer t22P, .int .i64 t22]) ∧
 Calls Try.prog 12 #[.int .i64 (IntKind.wrap .i64 (1 + ((IntKind.wrap .i64 size).tmod 64)))] w1 (fun e w2 => ∃ t27P : Option Addr, ∃ t27 : Int, e = .returned (.tuple #[.pointer t27P, .int .i64 t27]) ∧
 Calls Try.prog 14 #[] w2 (fun e w3 => ∃ t30 : Bool, e = .returned (.bool t30) ∧
 br (!t30) (
 Calls Try.prog 14 #[] w3 (fun e w4 => ∃ t58 : Bool, e = .returned (.bool t58) ∧
 R (.bool t58) w4)) (
 br (t22 != 0) (
 Calls Try.prog 14 #[] w3 (fun e w4 => ∃ t58 : Bool, e = .returned (.bool t58) ∧
 R (.bool t58) w4)) (
 br (t27 != 0) (
 Calls Try.prog 14 #[] w3 (fun e w4 => ∃ t58 : Bool, e = .returned (.bool t58) ∧
 R (.bool t58) w4)) (
 br ((t22P : Option Addr).isNone) (
 Calls Try.prog 14 #[] w3 (fun e w4 => ∃ t58 : Bool, e = .returned (.bool t58) ∧
 R (.bool t58) w4)) (
 br ((t27P : Option Addr).isNone) (
 Calls Try.prog 14 #[] w3 (fun e w4 => ∃ t58 : Bool, e = .returned (.bool t58) ∧
 R (.bool t58) w4)) (
 br (decide (((aN : Nat) : Int) > 200)) (
 Calls Try.prog 14 #[] w3 (fun e w4 => ∃ t58 : Bool, e = .returned (.bool t58) ∧
 R (.bool t58) w4)) (
 br (decide (((bN : Nat) : Int) > 200)) (
 Calls Try.prog 14 #[] w3 (fun e w5 => ∃ t581 : Bool, e = .returned (.bool t581) ∧
 R (.bool t581) w5)) (
 newBlk w3 (.cells #[] 34 (0, 0)) fun b w6 =>
 ∃ t62A : Option Addr, ∃ t62N : Nat, ∃ t62C : Nat, ∃ w7 : World, (Builtin.append_ #[22, 22] 22 #[.slice (some ⟨b, 0, none⟩) 0 0, .slice aA aN aC]).run Try.prog w6 = .ok (.slice t62A t62N t62C) w7 ∧
 Calls Try.prog 15 #[.pointer t22P, .slice t62A t62N t62C] w7 (fun e w8 => e = .returned (.tuple #[]) ∧
 Calls Try.prog 15 #[.pointer t22P, .slice bA bN bC] w8 (fun e w9 => e = .returned (.tuple #[]) ∧
 ∃ I : Nat → Int → World → Prop, (∃ n, I n 0 w9) ∧ ∀ (n9 : Nat) (dead : Nat → Value) (w10 : World) (i : Int), I n9 i w10 →
 purlinlaw18_HealthTogether.L0 size aA aN aC bA bN bC R t22P t27P i w10 (fun x0 w9 => ∃ m, m < n9 ∧ I m x0 w9)))))))))))))

theorem purlinlaw18_HealthTogether.vc (size : Int) (aA : Option Addr) (aN : Nat) (aC : Nat) (bA : Option Addr) (bN : Nat) (bC : Nat) (w : World) (R : Value → World → Prop) : fnVC Try.prog purlinlaw18_HealthTogether.A Try.f5 [.int .u8 size, .slice aA aN aC, .slice bA bN bC] w R = purlinlaw18_HealthTogether.F size aA aN aC bA bN bC w R := by kernel_rfl
theorem purlinlaw18_HealthTogether.calls (size : Int) (aA : Option Addr) (aN : Nat) (aC : Nat) (bA : Option Addr) (bN : Nat) (bC : Nat) (w : World) (R : Value → World → Prop) (h : purlinlaw18_HealthTogether.F size aA aN aC bA bN bC w R) : Calls Try.prog 5 #[.int .u8 size, .slice aA aN aC, .slice bA bN bC] w (Ret R) :=
  calls_of_vc mixed Try.func5 (Eq.mpr (purlinlaw18_HealthTogether.vc size aA aN aC bA bN bC w R) h)

/-! ### purlin/purlinlaw18.HealthLast: function 6 -/
def purlinlaw18_HealthLast.A : Ann where
  sched := fun i => match i with
    | _ => none
  loop := fun i => match i with
    | _ => none

def purlinlaw18_HealthLast.F (size : Int) (aheadA : Option Addr) (aheadN : Nat) (aheadC : Nat) (lastA : Option Addr) (lastN : Nat) (lastC : Nat) (w : World) (R : Value → World → Prop) : Prop :=
 (64 : Int) ≠ 0 ∧
 Calls Try.prog 12 #[.int .i64 (IntKind.wrap .i64 (1 + ((IntKind.wrap .i64 size).tmod 64)))] w (fun e w1 => ∃ t17P : Option Addr, ∃ t17 : Int, e = .returned (.tuple #[.pointer t17P, .int .i64 t17]) ∧
 Calls Try.prog 14 #[] w1 (fun e w2 => ∃ t20 : Bool, e = .returned (.bool t20) ∧
 br (!t20) (
 Calls Try.prog 14 #[] w2 (fun e w3 => ∃ t40 : Bool, e = .returned (.bool t40) ∧
 R (.bool t40) w3)) (
 br (t17 != 0) (
 Calls Try.prog 14 #[] w2 (fun e w3 => ∃ t40 : Bool, e = .returned (.bool t40) ∧
 R (.bool t40) w3)) (
 br ((t17P : Option Addr).isNone) (
 Calls Try.prog 14 #[] w2 (fun e w3 => ∃ t40 : Bool, e = .returned (.bool t40) ∧
 R (.bool t40) w3)) (
 br (decide (((aheadN : Nat) : Int) > 200)) (
 Calls Try.prog 14 #[] w2 (fun e w3 => ∃ t40 : Bool, e = .returned (.bool t40) ∧
 R (.bool t40) w3)) (
 br (decide (((lastN : Nat) : Int) > 200)) (
 Calls Try.prog 14 #[] w2 (fun e w4 => ∃ t401 : Bool, e = .returned (.bool t401) ∧
 R (.bool t401) w4)) (
 Calls Try.prog 15 #[.pointer t17P, .slice aheadA aheadN aheadC] w2 (fun e w5 => e = .returned (.tuple #[]) ∧
 Calls Try.prog 15 #[.pointer t17P, .slice lastA lastN lastC] w5 (fun e w6 => e = .returned (.tuple #[]) ∧
 Calls Try.prog 18 #[.pointer t17P] w6 (fun e w7 => ∃ t48A : Option Addr, ∃ t48N : Nat, ∃ t48C : Nat, e = .returned (.slice t48A t48N t48C) ∧
 br (decide (((lastN : Nat) : Int) ≥ IntKind.wrap .i64 (1 + ((IntKind.wrap .i64 size).tmod 64)))) (
 0 ≤ IntKind.wrap .i64 (((lastN : Nat) : Int) - (IntKind.wrap .i64 (1 + ((IntKind.wrap .i64 size).tmod 64)))) ∧ IntKind.wrap .i64 (((lastN : Nat) : Int) - (IntKind.wrap .i64 (1 + ((IntKind.wrap .i64 size).tmod 64)))) ≤ ((lastN : Nat) : Int) ∧
 Calls Try.prog 17 #[.slice t48A t48N t48C, .slice (cutBase lastA ((IntKind.wrap .i64 (((lastN : Nat) : Int) - (IntKind.wrap .i64 (1 + ((IntKind.wrap .i64 size).tmod 64))))).toNat) lastC 5) (lastN - (IntKind.wrap .i64 (((lastN : Nat) : Int) - (IntKind.wrap .i64 (1 + ((IntKind.wrap .i64 size).tmod 64))))).toNat) (lastC - (IntKind.wrap .i64 (((lastN : Nat) : Int) - (IntKind.wrap .i64 (1 + ((IntKind.wrap .i64 size).tmod 64))))).toNat)] w7 (fun e w8 => ∃ t60 : Bool, e = .returned (.bool t60) ∧
 R (.bool t60) w8)) (
 br (decide (((t48N : Nat) : Int) ≥ ((lastN : Nat) : Int))) (
 0 ≤ IntKind.wrap .i64 (((t48N : Nat) : Int) - ((lastN : Nat) : Int)) ∧ IntKind.wrap .i64 (((t48N : Nat) : Int) - ((lastN : Nat) : Int)) ≤ ((t48N : Nat) : Int) ∧
 Calls Try.prog 17 #[.slice (cutBase t48A ((IntKind.wrap .i64 (((t48N : Nat) : Int) - ((lastN : Nat) : Int))).toNat) t48C 5) (t48N - (IntKind.wrap .i64 (((t48N : Nat) : Int) - ((lastN : Nat) : Int))).toNat) (t48C - (IntKind.wrap .i64 (((t48N : Nat) : Int) - ((lastN : Nat) : Int))).toNat), .slice lastA lastN lastC] w7 (fun e w9 => ∃ t75 : Bool, e = .returned (.bool t75) ∧
 R (.bool t75) w9)) (
 R (.bool false) w7))))))))))))

theorem purlinlaw18_HealthLast.vc (size : Int) (aheadA : Option Addr) (aheadN : Nat) (aheadC : Nat) (lastA : Option Addr) (lastN : Nat) (lastC : Nat) (w : World) (R : Value → World → Prop) : fnVC Try.prog purlinlaw18_HealthLast.A Try.f6 [.int .u8 size, .slice aheadA aheadN aheadC, .slice lastA lastN lastC] w R = purlinlaw18_HealthLast.F size aheadA aheadN aheadC lastA lastN lastC w R := by kernel_rfl
theorem purlinlaw18_HealthLast.calls (size : Int) (aheadA : Option Addr) (aheadN : Nat) (aheadC : Nat) (lastA : Option Addr) (lastN : Nat) (lastC : Nat) (w : World) (R : Value → World → Prop) (h : purlinlaw18_HealthLast.F size aheadA aheadN aheadC lastA lastN lastC w R) : Calls Try.prog 6 #[.int .u8 size, .slice aheadA aheadN aheadC, .slice lastA lastN lastC] w (Ret R) :=
  calls_of_vc mixed Try.func6 (Eq.mpr (purlinlaw18_HealthLast.vc size aheadA aheadN aheadC lastA lastN lastC w R) h)

end Go.Proofs.Ytgkbokhmmoemfaa
