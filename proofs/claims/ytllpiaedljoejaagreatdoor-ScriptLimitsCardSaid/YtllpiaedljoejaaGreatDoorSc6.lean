/- Printed by vcgen.py: of each function of this text its weakest precondition as a formula, and that it is one. Conditions: none. -/
import Derived.Test.YtllpiaedljoejaaGreatDoorVcCode
import Derived.Test.YtllpiaedljoejaaGreatDoorVcMem
import Derived.Test.YtllpiaedljoejaaGreatDoorChecked
namespace Go.Proofs.YtllpiaedljoejaaGreatDoor
open Go.Vc
set_option linter.unusedVariables false
set_option maxRecDepth 100000

/-! ### purlin/script.bad: function 12 -/
def script_bad.A : Ann where
  sched := fun i => match i with
    | _ => none
  loop := fun i => match i with
    | _ => none

def script_bad.F (e1 : Int) (w : World) (R : Value → World → Prop) : Prop :=
 Calls Tryz.prog 22 #[.int .i64 e1] w (fun e w1 => ∃ t4 : ByteArray, e = .returned (.string t4) ∧
 (((⟨#[101, 114, 114, 111, 114, 32]⟩ : ByteArray).size + t4.size : Nat) : Int) ≤ 9223372036854775807 ∧
 R (.string ((⟨#[101, 114, 114, 111, 114, 32]⟩ : ByteArray) ++ t4)) w1)

theorem script_bad.vc (e1 : Int) (w : World) (R : Value → World → Prop) : fnVC Tryz.prog script_bad.A Tryz.f12 [.int .i64 e1] w R = script_bad.F e1 w R := by kernel_rfl
theorem script_bad.calls (e1 : Int) (w : World) (R : Value → World → Prop) (h : script_bad.F e1 w R) : Calls Tryz.prog 12 #[.int .i64 e1] w (Ret R) :=
  calls_of_vc mixed Tryz.func12 (Eq.mpr (script_bad.vc e1 w R) h)

/-! ### purlin/script.parse: function 21 -/
def script_parse.A : Ann where
  sched := fun i => match i with
    | _ => none
  loop := fun i => match i with
    | _ => none

def script_parse.K0 (R : Value → World → Prop) (b : Nat) (w12 : World) : Prop :=
 ∃ r12 : ByteArray, w12.cell? ⟨b, 0, none⟩ = some (.string r12) ∧ ∃ r13 : Int, w12.cell? ⟨b, 1, none⟩ = some (.int .i64 r13) ∧ ∃ rA2 : Option Addr, ∃ rN2 : Nat, ∃ rC2 : Nat, w12.cell? ⟨b, 2, none⟩ = some (.slice rA2 rN2 rC2) ∧ ∃ r14 : Int, w12.cell? ⟨b, 3, none⟩ = some (.int .i64 r14) ∧ ∃ r15 : Int, w12.cell? ⟨b, 4, none⟩ = some (.int .i64 r15) ∧ ∃ r16 : Int, w12.cell? ⟨b, 5, none⟩ = some (.int .i64 r16) ∧ ∃ r17 : ByteArray, w12.cell? ⟨b, 6, none⟩ = some (.string r17) ∧ 
 R (.tuple #[.agg #[.string r12, .int .i64 r13, .slice rA2 rN2 rC2, .int .i64 r14, .int .i64 r15, .int .i64 r16, .string r17], .bool false]) w12

def script_parse.K1 (R : Value → World → Prop) (b : Nat) (t162 : Bool) (b1 : Nat) (ok : Bool) (w9 : World) : Prop :=
 ∃ t99 : ByteArray, w9.cell? ⟨b1, 0, none⟩ = some (.string t99) ∧ ∃ t991 : Int, w9.cell? ⟨b1, 1, none⟩ = some (.int .i64 t991) ∧ ∃ t99A : Option Addr, ∃ t99N : Nat, ∃ t99C : Nat, w9.cell? ⟨b1, 2, none⟩ = some (.slice t99A t99N t99C) ∧ ∃ t992 : Int, w9.cell? ⟨b1, 3, none⟩ = some (.int .i64 t992) ∧ ∃ t993 : Int, w9.cell? ⟨b1, 4, none⟩ = some (.int .i64 t993) ∧ ∃ t994 : Int, w9.cell? ⟨b1, 5, none⟩ = some (.int .i64 t994) ∧ ∃ t995 : ByteArray, w9.cell? ⟨b1, 6, none⟩ = some (.string t995) ∧ 
 br t162 (
 storeC w9 b 0 [.string t99, .int .i64 t991, .slice t99A t99N t99C, .int .i64 t992, .int .i64 t993, .int .i64 t994, .string t995] fun w10 =>
 ∃ r6 : ByteArray, w10.cell? ⟨b, 0, none⟩ = some (.string r6) ∧ ∃ r7 : Int, w10.cell? ⟨b, 1, none⟩ = some (.int .i64 r7) ∧ ∃ rA1 : Option Addr, ∃ rN1 : Nat, ∃ rC1 : Nat, w10.cell? ⟨b, 2, none⟩ = some (.slice rA1 rN1 rC1) ∧ ∃ r8 : Int, w10.cell? ⟨b, 3, none⟩ = some (.int .i64 r8) ∧ ∃ r9 : Int, w10.cell? ⟨b, 4, none⟩ = some (.int .i64 r9) ∧ ∃ r10 : Int, w10.cell? ⟨b, 5, none⟩ = some (.int .i64 r10) ∧ ∃ r11 : ByteArray, w10.cell? ⟨b, 6, none⟩ = some (.string r11) ∧ 
 R (.tuple #[.agg #[.string r6, .int .i64 r7, .slice rA1 rN1 rC1, .int .i64 r8, .int .i64 r9, .int .i64 r10, .string r11], .bool ok]) w10) (
 storeC w9 b 0 [.string t99, .int .i64 t991, .slice t99A t99N t99C, .int .i64 t992, .int .i64 t993, .int .i64 t994, .string t995] fun w11 =>
 script_parse.K0 R b w11)

def script_parse.K2 (R : Value → World → Prop) (b : Nat) (t162 : Bool) (b1 : Nat) (w15 : World) : Prop :=
 ∃ t996 : ByteArray, w15.cell? ⟨b1, 0, none⟩ = some (.string t996) ∧ ∃ t997 : Int, w15.cell? ⟨b1, 1, none⟩ = some (.int .i64 t997) ∧ ∃ t99A1 : Option Addr, ∃ t99N1 : Nat, ∃ t99C1 : Nat, w15.cell? ⟨b1, 2, none⟩ = some (.slice t99A1 t99N1 t99C1) ∧ ∃ t998 : Int, w15.cell? ⟨b1, 3, none⟩ = some (.int .i64 t998) ∧ ∃ t999 : Int, w15.cell? ⟨b1, 4, none⟩ = some (.int .i64 t999) ∧ ∃ t9910 : Int, w15.cell? ⟨b1, 5, none⟩ = some (.int .i64 t9910) ∧ ∃ t9911 : ByteArray, w15.cell? ⟨b1, 6, none⟩ = some (.string t9911) ∧ 
 br t162 (
 storeC w15 b 0 [.string t996, .int .i64 t997, .slice t99A1 t99N1 t99C1, .int .i64 t998, .int .i64 t999, .int .i64 t9910, .string t9911] fun w16 =>
 script_parse.K0 R b w16) (
 storeC w15 b 0 [.string t996, .int .i64 t997, .slice t99A1 t99N1 t99C1, .int .i64 t998, .int .i64 t999, .int .i64 t9910, .string t9911] fun w17 =>
 script_parse.K0 R b w17)

def script_parse.K3 (R : Value → World → Prop) (b : Nat) (t16 : ByteArray) (t161 : ByteArray) (t162 : Bool) (b1 : Nat) (t56 : Bool) (w18 : World) : Prop :=
 br t56 (
 Calls Tryz.prog 37 #[.string t161] w18 (fun e w19 => ∃ t66 : Int, ∃ t661 : Bool, e = .returned (.tuple #[.int .i64 t66, .bool t661]) ∧
 storeC w19 b1 1 [.int .i64 t66] fun w20 =>
 script_parse.K1 R b t162 b1 t661 w20)) (
 br (t16.toList == (⟨#[112, 105, 99, 107]⟩ : ByteArray).toList) (
 Calls Tryz.prog 36 #[.string t161, .string (⟨#[32]⟩ : ByteArray)] w18 (fun e w21 => ∃ t74 : ByteArray, ∃ t741 : ByteArray, ∃ t742 : Bool, e = .returned (.tuple #[.string t74, .string t741, .bool t742]) ∧
 Calls Tryz.prog 37 #[.string t74] w21 (fun e w22 => ∃ t80 : Int, ∃ t801 : Bool, e = .returned (.tuple #[.int .i64 t80, .bool t801]) ∧
 storeC w22 b1 1 [.int .i64 t80] fun w23 =>
 storeC w23 b1 3 [.int .i64 17, .int .i64 0, .int .i64 0, .string (⟨#[]⟩ : ByteArray)] fun w24 =>
 br t801 (
 br t742 (
 Calls Tryz.prog 38 #[.string t741] w24 (fun e w25 => ∃ t92 : Int, ∃ t921 : Int, ∃ t922 : Int, ∃ t923 : ByteArray, ∃ t924 : Int, e = .returned (.tuple #[.agg #[.int .i64 t92, .int .i64 t921, .int .i64 t922, .string t923], .int .i64 t924]) ∧
 newBlk w25 (.cells #[.int .i64 0, .int .i64 0, .int .i64 0, .string (⟨#[]⟩ : ByteArray)] 43 (0, 0)) fun b2 w26 =>
 storeC w26 b2 0 [.int .i64 t92, .int .i64 t921, .int .i64 t922, .string t923] fun w27 =>
 ∃ t95 : Int, w27.cell? ⟨b2, 0, none⟩ = some (.int .i64 t95) ∧ ∃ t951 : Int, w27.cell? ⟨b2, 1, none⟩ = some (.int .i64 t951) ∧ ∃ t952 : Int, w27.cell? ⟨b2, 2, none⟩ = some (.int .i64 t952) ∧ ∃ t953 : ByteArray, w27.cell? ⟨b2, 3, none⟩ = some (.string t953) ∧ 
 storeC w27 b1 3 [.int .i64 t95, .int .i64 t951, .int .i64 t952, .string t953] fun w28 =>
 script_parse.K1 R b t162 b1 (t924 == 0) w28)) (
 script_parse.K1 R b t162 b1 t801 w24)) (
 script_parse.K1 R b t162 b1 t801 w24)))) (
 script_parse.K2 R b t162 b1 w18))

def script_parse.K4 (R : Value → World → Prop) (b : Nat) (t16 : ByteArray) (t161 : ByteArray) (t162 : Bool) (b1 : Nat) (t23 : Bool) (w5 : World) : Prop :=
 br t23 (
 ∃ t26 : ByteArray, w5.cell? ⟨b1, 0, none⟩ = some (.string t26) ∧ ∃ t261 : Int, w5.cell? ⟨b1, 1, none⟩ = some (.int .i64 t261) ∧ ∃ t26A : Option Addr, ∃ t26N : Nat, ∃ t26C : Nat, w5.cell? ⟨b1, 2, none⟩ = some (.slice t26A t26N t26C) ∧ ∃ t262 : Int, w5.cell? ⟨b1, 3, none⟩ = some (.int .i64 t262) ∧ ∃ t263 : Int, w5.cell? ⟨b1, 4, none⟩ = some (.int .i64 t263) ∧ ∃ t264 : Int, w5.cell? ⟨b1, 5, none⟩ = some (.int .i64 t264) ∧ ∃ t265 : ByteArray, w5.cell? ⟨b1, 6, none⟩ = some (.string t265) ∧ 
 storeC w5 b 0 [.string t26, .int .i64 t261, .slice t26A t26N t26C, .int .i64 t262, .int .i64 t263, .int .i64 t264, .string t265] fun w6 =>
 ∃ r : ByteArray, w6.cell? ⟨b, 0, none⟩ = some (.string r) ∧ ∃ r1 : Int, w6.cell? ⟨b, 1, none⟩ = some (.int .i64 r1) ∧ ∃ rA : Option Addr, ∃ rN : Nat, ∃ rC : Nat, w6.cell? ⟨b, 2, none⟩ = some (.slice rA rN rC) ∧ ∃ r2 : Int, w6.cell? ⟨b, 3, none⟩ = some (.int .i64 r2) ∧ ∃ r3 : Int, w6.cell? ⟨b, 4, none⟩ = some (.int .i64 r3) ∧ ∃ r4 : Int, w6.cell? ⟨b, 5, none⟩ = some (.int .i64 r4) ∧ ∃ r5 : ByteArray, w6.cell? ⟨b, 6, none⟩ = some (.string r5) ∧ 
 R (.tuple #[.agg #[.string r, .int .i64 r1, .slice rA rN rC, .int .i64 r2, .int .i64 r3, .int .i64 r4, .string r5], .bool (!t162)]) w6) (
 br (t16.toList == (⟨#[112, 108, 97, 110]⟩ : ByteArray).toList) (
 Calls Tryz.prog 8 #[.string t161] w5 (fun e w7 => ∃ t33A : Option Addr, ∃ t33N : Nat, ∃ t33C : Nat, ∃ t33 : Bool, e = .returned (.tuple #[.slice t33A t33N t33C, .bool t33]) ∧
 storeC w7 b1 2 [.slice t33A t33N t33C] fun w8 =>
 script_parse.K1 R b t162 b1 t33 w8)) (
 br (t16.toList == (⟨#[116, 105, 99, 107]⟩ : ByteArray).toList) (
 Calls Tryz.prog 37 #[.string t161] w5 (fun e w13 => ∃ t41 : Int, ∃ t411 : Bool, e = .returned (.tuple #[.int .i64 t41, .bool t411]) ∧
 storeC w13 b1 1 [.int .i64 t41] fun w14 =>
 br t411 (
 ∃ t48 : Int, w14.cell? ⟨b1, 1, none⟩ = some (.int .i64 t48) ∧
 br (decide (t48 ≥ 1)) (
 ∃ t53 : Int, w14.cell? ⟨b1, 1, none⟩ = some (.int .i64 t53) ∧
 script_parse.K1 R b t162 b1 (decide (t53 ≤ 1000)) w14) (
 script_parse.K2 R b t162 b1 w14)) (
 script_parse.K2 R b t162 b1 w14))) (
 br (t16.toList == (⟨#[99, 111, 114, 101]⟩ : ByteArray).toList) (
 script_parse.K3 R b t16 t161 t162 b1 (t16.toList == (⟨#[99, 111, 114, 101]⟩ : ByteArray).toList) w5) (
 br (t16.toList == (⟨#[98, 117, 115, 121]⟩ : ByteArray).toList) (
 script_parse.K3 R b t16 t161 t162 b1 (t16.toList == (⟨#[98, 117, 115, 121]⟩ : ByteArray).toList) w5) (
 br (t16.toList == (⟨#[99, 97, 108, 108, 115]⟩ : ByteArray).toList) (
 script_parse.K3 R b t16 t161 t162 b1 (t16.toList == (⟨#[99, 97, 108, 108, 115]⟩ : ByteArray).toList) w5) (
 br (t16.toList == (⟨#[116, 101, 120, 116]⟩ : ByteArray).toList) (
 script_parse.K3 R b t16 t161 t162 b1 (t16.toList == (⟨#[116, 101, 120, 116]⟩ : ByteArray).toList) w5) (
 br (t16.toList == (⟨#[111, 114, 100, 101, 114]⟩ : ByteArray).toList) (
 script_parse.K3 R b t16 t161 t162 b1 (t16.toList == (⟨#[111, 114, 100, 101, 114]⟩ : ByteArray).toList) w5) (
 br (t16.toList == (⟨#[108, 111, 103]⟩ : ByteArray).toList) (
 script_parse.K3 R b t16 t161 t162 b1 (t16.toList == (⟨#[108, 111, 103]⟩ : ByteArray).toList) w5) (
 script_parse.K3 R b t16 t161 t162 b1 (t16.toList == (⟨#[108, 101, 110]⟩ : ByteArray).toList) w5)))))))))

def script_parse.F (line : ByteArray) (w : World) (R : Value → World → Prop) : Prop :=
 newBlk w (.cells #[.string (⟨#[]⟩ : ByteArray), .int .i64 0, .slice none 0 0, .int .i64 0, .int .i64 0, .int .i64 0, .string (⟨#[]⟩ : ByteArray)] 45 (0, 0)) fun b w1 =>
 Calls Tryz.prog 36 #[.string line, .string (⟨#[32]⟩ : ByteArray)] w1 (fun e w2 => ∃ t16 : ByteArray, ∃ t161 : ByteArray, ∃ t162 : Bool, e = .returned (.tuple #[.string t16, .string t161, .bool t162]) ∧
 newBlk w2 (.cells #[.string (⟨#[]⟩ : ByteArray), .int .i64 0, .slice none 0 0, .int .i64 0, .int .i64 0, .int .i64 0, .string (⟨#[]⟩ : ByteArray)] 45 (0, 0)) fun b1 w3 =>
 storeC w3 b1 0 [.string t16, .int .i64 0, .slice none 0 0, .int .i64 0, .int .i64 0, .int .i64 0, .string (⟨#[]⟩ : ByteArray)] fun w4 =>
 br (t16.toList == (⟨#[110, 111, 119]⟩ : ByteArray).toList) (
 script_parse.K4 R b t16 t161 t162 b1 (t16.toList == (⟨#[110, 111, 119]⟩ : ByteArray).toList) w4) (
 script_parse.K4 R b t16 t161 t162 b1 (t16.toList == (⟨#[119, 97, 107, 101, 115]⟩ : ByteArray).toList) w4))

theorem script_parse.vc (line : ByteArray) (w : World) (R : Value → World → Prop) : fnVC Tryz.prog script_parse.A Tryz.f21 [.string line] w R = script_parse.F line w R := by kernel_rfl
theorem script_parse.calls (line : ByteArray) (w : World) (R : Value → World → Prop) (h : script_parse.F line w R) : Calls Tryz.prog 21 #[.string line] w (Ret R) :=
  calls_of_vc mixed Tryz.func21 (Eq.mpr (script_parse.vc line w R) h)

/-! ### purlin/script.read: function 11 -/
def script_read.A : Ann where
  sched := fun i => match i with
    | _ => none
  loop := fun i => match i with
    | 10 => some [(2, none), (3, none), (4, none), (6, some (.one (.slice))), (7, none), (8, none), (9, none), (10, none), (33, some (.one (.int .i64))), (34, none), (35, none), (36, none), (37, none), (38, none), (39, none), (40, none), (41, none), (42, none), (43, none), (44, none), (45, none), (46, none), (47, none), (48, none), (49, none), (50, none), (51, none), (52, none), (53, none), (54, none), (55, none), (56, none), (57, none), (58, none)]
    | _ => none

def script_read.L0 (R : Value → World → Prop) (linesA : Option Addr) (linesN : Nat) (lA : Option Addr) (lN : Nat) (lC : Nat) (t33 : Int) (w3 : World) (Nx0 : Option Addr → Nat → Nat → Int → World → Prop) : Prop :=
 br (decide (t33 < ((linesN : Nat) : Int))) (
 0 ≤ (t33 : Int) ∧ t33 < ((linesN : Nat) : Int) ∧ okP linesA (
 ∃ t37 : ByteArray, w3.cell? ⟨(pb linesA), po linesA + t33.toNat * 1, none⟩ = some (.string t37) ∧
 br (t37.toList == (⟨#[]⟩ : ByteArray).toList) (
 Nx0 lA lN lC (IntKind.wrap .i64 (t33 + 1)) w3) (
 0 ≤ (0 : Int) ∧ 0 < (t37.size : Int) ∧
 br ((((t37.data.getD (0 : Int).toNat 0).toNat : Nat) : Int) == 35) (
 Nx0 lA lN lC (IntKind.wrap .i64 (t33 + 1)) w3) (
 Calls Tryz.prog 21 #[.string t37] w3 (fun e w5 => ∃ t47 : ByteArray, ∃ t471 : Int, ∃ t47A : Option Addr, ∃ t47N : Nat, ∃ t47C : Nat, ∃ t472 : Int, ∃ t473 : Int, ∃ t474 : Int, ∃ t475 : ByteArray, ∃ t476 : Bool, e = .returned (.tuple #[.agg #[.string t47, .int .i64 t471, .slice t47A t47N t47C, .int .i64 t472, .int .i64 t473, .int .i64 t474, .string t475], .bool t476]) ∧
 newBlk w5 (.cells #[.string (⟨#[]⟩ : ByteArray), .int .i64 0, .slice none 0 0, .int .i64 0, .int .i64 0, .int .i64 0, .string (⟨#[]⟩ : ByteArray)] 45 (0, 0)) fun b w6 =>
 storeC w6 b 0 [.string t47, .int .i64 t471, .slice t47A t47N t47C, .int .i64 t472, .int .i64 t473, .int .i64 t474, .string t475] fun w7 =>
 br (!t476) (
 R (.tuple #[.slice none 0 0, .int .i64 (IntKind.wrap .i64 (t33 + 1)), .int .i64 282]) w7) (
 ∃ t55 : ByteArray, w7.cell? ⟨b, 0, none⟩ = some (.string t55) ∧ ∃ t551 : Int, w7.cell? ⟨b, 1, none⟩ = some (.int .i64 t551) ∧ ∃ t55A : Option Addr, ∃ t55N : Nat, ∃ t55C : Nat, w7.cell? ⟨b, 2, none⟩ = some (.slice t55A t55N t55C) ∧ ∃ t552 : Int, w7.cell? ⟨b, 3, none⟩ = some (.int .i64 t552) ∧ ∃ t553 : Int, w7.cell? ⟨b, 4, none⟩ = some (.int .i64 t553) ∧ ∃ t554 : Int, w7.cell? ⟨b, 5, none⟩ = some (.int .i64 t554) ∧ ∃ t555 : ByteArray, w7.cell? ⟨b, 6, none⟩ = some (.string t555) ∧ 
 newBlk w7 (.cells #[.string t55, .int .i64 t551, .slice t55A t55N t55C, .int .i64 t552, .int .i64 t553, .int .i64 t554, .string t555] 45 (0, 0)) fun b1 w8 =>
 ∃ t57A : Option Addr, ∃ t57N : Nat, ∃ t57C : Nat, ∃ w9 : World, (Builtin.append_ #[35, 35] 35 #[.slice lA lN lC, .slice (some ⟨b1, 0, none⟩) 1 1]).run Tryz.prog w8 = .ok (.slice t57A t57N t57C) w9 ∧
 Nx0 t57A t57N t57C (IntKind.wrap .i64 (t33 + 1)) w9)))))) (
 R (.tuple #[.slice lA lN lC, .int .i64 0, .int .i64 0]) w3)

def script_read.K0 (R : Value → World → Prop) (linesA : Option Addr) (linesN : Nat) (linesC : Nat) (w2 : World) : Prop :=
 br (decide (((linesN : Nat) : Int) > 500)) (
 R (.tuple #[.slice none 0 0, .int .i64 0, .int .i64 281]) w2) (
 ∃ I : Nat → Option Addr → Nat → Nat → Int → World → Prop, (∃ n, I n none 0 0 0 w2) ∧ ∀ (n9 : Nat) (dead : Nat → Value) (w3 : World) (lA : Option Addr) (lN : Nat) (lC : Nat) (t33 : Int), I n9 lA lN lC t33 w3 →
 script_read.L0 R linesA linesN lA lN lC t33 w3 (fun x0 x1 x2 x3 w9 => ∃ m, m < n9 ∧ I m x0 x1 x2 x3 w9))

def script_read.F (script : ByteArray) (w : World) (R : Value → World → Prop) : Prop :=
 br (decide ((script.size : Int) > 65536)) (
 R (.tuple #[.slice none 0 0, .int .i64 0, .int .i64 280]) w) (
 Calls Tryz.prog 20 #[.string script, .string (⟨#[10]⟩ : ByteArray)] w (fun e w1 => ∃ t15A : Option Addr, ∃ t15N : Nat, ∃ t15C : Nat, e = .returned (.slice t15A t15N t15C) ∧
 0 ≤ (IntKind.wrap .i64 (((t15N : Nat) : Int) - 1) : Int) ∧ IntKind.wrap .i64 (((t15N : Nat) : Int) - 1) < ((t15N : Nat) : Int) ∧ okP t15A (
 ∃ t21 : ByteArray, w1.cell? ⟨(pb t15A), po t15A + (IntKind.wrap .i64 (((t15N : Nat) : Int) - 1)).toNat * 1, none⟩ = some (.string t21) ∧
 br (t21.toList == (⟨#[]⟩ : ByteArray).toList) (
 0 ≤ IntKind.wrap .i64 (((t15N : Nat) : Int) - 1) ∧ IntKind.wrap .i64 (((t15N : Nat) : Int) - 1) ≤ ((t15C : Nat) : Int) ∧
 script_read.K0 R (cutBase t15A 0 t15C 1) ((IntKind.wrap .i64 (((t15N : Nat) : Int) - 1)).toNat - 0) (t15C - 0) w1) (
 script_read.K0 R t15A t15N t15C w1))))

theorem script_read.vc (script : ByteArray) (w : World) (R : Value → World → Prop) : fnVC Tryz.prog script_read.A Tryz.f11 [.string script] w R = script_read.F script w R := by kernel_rfl
theorem script_read.calls (script : ByteArray) (w : World) (R : Value → World → Prop) (h : script_read.F script w R) : Calls Tryz.prog 11 #[.string script] w (Ret R) :=
  calls_of_vc mixed Tryz.func11 (Eq.mpr (script_read.vc script w R) h)

/-! ### purlin/script.Run: function 5 -/
def script_Run.A : Ann where
  sched := fun i => match i with
    | _ => none
  loop := fun i => match i with
    | 7 => some [(8, some (.one (.ptr))), (11, none), (12, none), (13, none), (26, some (.one (.int .i64))), (27, none), (28, none), (29, none), (30, none), (31, none), (32, none), (33, none), (34, none), (35, none), (36, none), (37, none), (38, none), (39, none), (40, none), (41, none), (42, none), (43, none), (44, none), (45, none), (46, none), (47, none), (48, none), (49, none), (50, none), (51, none), (52, none), (53, none)]
    | _ => none

def script_Run.L0 (R : Value → World → Prop) (t16A : Option Addr) (t16N : Nat) (b : Nat) (kP : Option Addr) (t26 : Int) (w3 : World) (Nx0 : Option Addr → Int → World → Prop) : Prop :=
 br (decide (t26 < ((t16N : Nat) : Int))) (
 0 ≤ (t26 : Int) ∧ t26 < ((t16N : Nat) : Int) ∧ okP t16A (
 ∃ t29 : ByteArray, w3.cell? ⟨(pb t16A), po t16A + t26.toNat * 7, none⟩ = some (.string t29) ∧ ∃ t291 : Int, w3.cell? ⟨(pb t16A), po t16A + t26.toNat * 7 + 1, none⟩ = some (.int .i64 t291) ∧ ∃ t29A : Option Addr, ∃ t29N : Nat, ∃ t29C : Nat, w3.cell? ⟨(pb t16A), po t16A + t26.toNat * 7 + 2, none⟩ = some (.slice t29A t29N t29C) ∧ ∃ t292 : Int, w3.cell? ⟨(pb t16A), po t16A + t26.toNat * 7 + 3, none⟩ = some (.int .i64 t292) ∧ ∃ t293 : Int, w3.cell? ⟨(pb t16A), po t16A + t26.toNat * 7 + 4, none⟩ = some (.int .i64 t293) ∧ ∃ t294 : Int, w3.cell? ⟨(pb t16A), po t16A + t26.toNat * 7 + 5, none⟩ = some (.int .i64 t294) ∧ ∃ t295 : ByteArray, w3.cell? ⟨(pb t16A), po t16A + t26.toNat * 7 + 6, none⟩ = some (.string t295) ∧ 
 newBlk w3 (.cells #[.string (⟨#[]⟩ : ByteArray), .int .i64 0, .slice none 0 0, .int .i64 0, .int .i64 0, .int .i64 0, .string (⟨#[]⟩ : ByteArray)] 45 (0, 0)) fun b1 w4 =>
 storeC w4 b1 0 [.string t29, .int .i64 t291, .slice t29A t29N t29C, .int .i64 t292, .int .i64 t293, .int .i64 t294, .string t295] fun w5 =>
 Calls Tryz.prog 12 #[.int .i64 283] w5 (fun e w6 => ∃ t30 : ByteArray, e = .returned (.string t30) ∧
 ∃ t33 : ByteArray, w6.cell? ⟨b1, 0, none⟩ = some (.string t33) ∧
 br (t33.toList == (⟨#[112, 108, 97, 110]⟩ : ByteArray).toList) (
 ∃ t37A : Option Addr, ∃ t37N : Nat, ∃ t37C : Nat, w6.cell? ⟨b1, 2, none⟩ = some (.slice t37A t37N t37C) ∧
 Calls Tryz.prog 13 #[.slice t37A t37N t37C] w6 (fun e w7 => ∃ t38P : Option Addr, ∃ t38 : ByteArray, e = .returned (.tuple #[.pointer t38P, .string t38]) ∧
 br (!(t38P : Option Addr).isNone) (
 ((t38.size + (⟨#[10]⟩ : ByteArray).size : Nat) : Int) ≤ 9223372036854775807 ∧
 Calls Tryz.prog 15 #[.pointer (some ⟨b, 0, none⟩), .string (t38 ++ (⟨#[10]⟩ : ByteArray))] w7 (fun e w9 => ∃ t52 : Int, ∃ t52V : Value, e = .returned (.tuple #[.int .i64 t52, t52V]) ∧
 Nx0 t38P (IntKind.wrap .i64 (t26 + 1)) w9)) (
 ((t38.size + (⟨#[10]⟩ : ByteArray).size : Nat) : Int) ≤ 9223372036854775807 ∧
 Calls Tryz.prog 15 #[.pointer (some ⟨b, 0, none⟩), .string (t38 ++ (⟨#[10]⟩ : ByteArray))] w7 (fun e w9 => ∃ t52 : Int, ∃ t52V : Value, e = .returned (.tuple #[.int .i64 t52, t52V]) ∧
 Nx0 kP (IntKind.wrap .i64 (t26 + 1)) w9)))) (
 br (!(kP : Option Addr).isNone) (
 ∃ t47 : ByteArray, w6.cell? ⟨b1, 0, none⟩ = some (.string t47) ∧ ∃ t471 : Int, w6.cell? ⟨b1, 1, none⟩ = some (.int .i64 t471) ∧ ∃ t47A : Option Addr, ∃ t47N : Nat, ∃ t47C : Nat, w6.cell? ⟨b1, 2, none⟩ = some (.slice t47A t47N t47C) ∧ ∃ t472 : Int, w6.cell? ⟨b1, 3, none⟩ = some (.int .i64 t472) ∧ ∃ t473 : Int, w6.cell? ⟨b1, 4, none⟩ = some (.int .i64 t473) ∧ ∃ t474 : Int, w6.cell? ⟨b1, 5, none⟩ = some (.int .i64 t474) ∧ ∃ t475 : ByteArray, w6.cell? ⟨b1, 6, none⟩ = some (.string t475) ∧ 
 Calls Tryz.prog 14 #[.agg #[.string t47, .int .i64 t471, .slice t47A t47N t47C, .int .i64 t472, .int .i64 t473, .int .i64 t474, .string t475], .pointer kP] w6 (fun e w10 => ∃ t49 : ByteArray, e = .returned (.string t49) ∧
 ((t49.size + (⟨#[10]⟩ : ByteArray).size : Nat) : Int) ≤ 9223372036854775807 ∧
 Calls Tryz.prog 15 #[.pointer (some ⟨b, 0, none⟩), .string (t49 ++ (⟨#[10]⟩ : ByteArray))] w10 (fun e w9 => ∃ t52 : Int, ∃ t52V : Value, e = .returned (.tuple #[.int .i64 t52, t52V]) ∧
 Nx0 kP (IntKind.wrap .i64 (t26 + 1)) w9))) (
 ((t30.size + (⟨#[10]⟩ : ByteArray).size : Nat) : Int) ≤ 9223372036854775807 ∧
 Calls Tryz.prog 15 #[.pointer (some ⟨b, 0, none⟩), .string (t30 ++ (⟨#[10]⟩ : ByteArray))] w6 (fun e w9 => ∃ t52 : Int, ∃ t52V : Value, e = .returned (.tuple #[.int .i64 t52, t52V]) ∧
 Nx0 kP (IntKind.wrap .i64 (t26 + 1)) w9)))))) (
 Calls Tryz.prog 16 #[.pointer (some ⟨b, 0, none⟩)] w3 (fun e w11 => ∃ t54 : ByteArray, e = .returned (.string t54) ∧
 R (.tuple #[.string t54, .int .i64 0, .int .i64 0]) w11))

def script_Run.F (script : ByteArray) (w : World) (R : Value → World → Prop) : Prop :=
 Calls Tryz.prog 11 #[.string script] w (fun e w1 => ∃ t16A : Option Addr, ∃ t16N : Nat, ∃ t16C : Nat, ∃ t16 : Int, ∃ t161 : Int, e = .returned (.tuple #[.slice t16A t16N t16C, .int .i64 t16, .int .i64 t161]) ∧
 br (t161 != 0) (
 R (.tuple #[.string (⟨#[]⟩ : ByteArray), .int .i64 t16, .int .i64 t161]) w1) (
 newBlk w1 (.cells #[.pointer none, .slice none 0 0] 41 (0, 0)) fun b w2 =>
 ∃ I : Nat → Option Addr → Int → World → Prop, (∃ n, I n none 0 w2) ∧ ∀ (n9 : Nat) (dead : Nat → Value) (w3 : World) (kP : Option Addr) (t26 : Int), I n9 kP t26 w3 →
 script_Run.L0 R t16A t16N b kP t26 w3 (fun x0 x1 w9 => ∃ m, m < n9 ∧ I m x0 x1 w9)))

theorem script_Run.vc (script : ByteArray) (w : World) (R : Value → World → Prop) : fnVC Tryz.prog script_Run.A Tryz.f5 [.string script] w R = script_Run.F script w R := by kernel_rfl
theorem script_Run.calls (script : ByteArray) (w : World) (R : Value → World → Prop) (h : script_Run.F script w R) : Calls Tryz.prog 5 #[.string script] w (Ret R) :=
  calls_of_vc mixed Tryz.func5 (Eq.mpr (script_Run.vc script w R) h)

end Go.Proofs.YtllpiaedljoejaaGreatDoor
