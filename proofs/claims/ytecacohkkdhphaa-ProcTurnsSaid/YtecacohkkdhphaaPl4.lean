/- Printed by vcgen.py: of each function of this text its weakest precondition as a formula, and that it is one. Conditions: none. -/
import Derived.Test.YtecacohkkdhphaaVcCode
import Derived.Test.YtecacohkkdhphaaVcMem
import Derived.Test.YtecacohkkdhphaaChecked
namespace Go.Proofs.Ytecacohkkdhphaa
open Go.Vc
set_option linter.unusedVariables false
set_option maxRecDepth 100000

/-! ### purlin/purlinlaw17.ProcApart: function 7 -/
def purlinlaw17_ProcApart.A : Ann where
  sched := fun i => match i with
    | _ => none
  loop := fun i => match i with
    | 5 => some [(9, some (.one (.int .i64))), (43, none), (44, none), (45, none), (46, none), (47, none), (48, none), (49, none), (50, none), (51, none), (52, none), (53, none), (54, none), (55, none), (56, none), (57, none), (58, none), (59, none)]
    | 13 => some [(13, some (.one (.int .i64))), (62, none), (63, none), (64, none), (65, none), (66, none), (67, none), (68, none), (69, none), (70, none), (71, none), (72, none), (73, none), (74, none), (75, none), (76, none), (77, none), (78, none), (79, none), (80, none)]
    | 19 => some [(6, none), (17, some (.one (.int .i64))), (18, none), (19, none), (20, none), (89, none), (90, none), (91, none), (92, none), (93, none), (94, none), (95, none), (96, none), (97, none), (98, none), (99, none), (100, none), (101, none), (102, none), (103, none), (104, none), (105, none), (106, none), (107, none), (108, none), (109, none), (110, none), (111, none), (112, none), (113, none), (114, none), (115, none), (116, none), (117, none), (118, none), (119, none), (120, none), (121, none), (122, none), (123, none), (124, none), (125, none), (126, none), (127, none), (128, none), (129, none), (130, none), (131, none), (132, none), (133, none), (134, none), (135, none), (136, none), (137, none), (138, none), (139, none), (140, none), (141, none), (142, none), (143, none), (144, none), (145, none), (146, none), (147, none), (148, none), (149, none), (150, none), (151, none), (152, none), (153, none), (154, none)]
    | _ => none

def purlinlaw17_ProcApart.K0 (priosA : Option Addr) (priosN : Nat) (R : Value → World → Prop) (b : Nat) (k1 : Int) (Nx2 : Int → World → Prop) (t98 : Int) (t981 : Bool) (t982 : Int) (w24 : World) : Prop :=
 ∃ t1371 : Int, w24.cell? ⟨b, 0, none⟩ = some (.int .i64 t1371) ∧
 br (t1371 == 8) (
 br (t98 != 0) (
 R (.bool false) w24) (
 br t981 (
 R (.bool false) w24) (
 0 ≤ (k1 : Int) ∧ k1 < ((priosN : Nat) : Int) ∧ okP priosA (
 ∃ t1501 : Int, w24.cell? ⟨(pb priosA), po priosA + k1.toNat * 1, none⟩ = some (.int .u8 t1501) ∧
 br (t982 != IntKind.wrap .i64 t1501) (
 R (.bool false) w24) (
 Nx2 (IntKind.wrap .i64 (k1 + 1)) w24))))) (
 Nx2 (IntKind.wrap .i64 (k1 + 1)) w24)

def purlinlaw17_ProcApart.K1 (priosA : Option Addr) (priosN : Nat) (R : Value → World → Prop) (b : Nat) (k1 : Int) (Nx2 : Int → World → Prop) (t98 : Int) (t981 : Bool) (t982 : Int) (t135 : Bool) (w25 : World) : Prop :=
 br t135 (
 R (.bool false) w25) (
 ∃ t137 : Int, w25.cell? ⟨b, 0, none⟩ = some (.int .i64 t137) ∧
 br (t137 == 8) (
 br (t98 != 0) (
 R (.bool false) w25) (
 br t981 (
 R (.bool false) w25) (
 0 ≤ (k1 : Int) ∧ k1 < ((priosN : Nat) : Int) ∧ okP priosA (
 ∃ t150 : Int, w25.cell? ⟨(pb priosA), po priosA + k1.toNat * 1, none⟩ = some (.int .u8 t150) ∧
 br (t982 != IntKind.wrap .i64 t150) (
 R (.bool false) w25) (
 Nx2 (IntKind.wrap .i64 (k1 + 1)) w25))))) (
 Nx2 (IntKind.wrap .i64 (k1 + 1)) w25))

def purlinlaw17_ProcApart.L2 (priosA : Option Addr) (priosN : Nat) (R : Value → World → Prop) (b : Nat) (t25P : Option Addr) (b1 : Nat) (b2 : Nat) (b3 : Nat) (t83 : Int) (t831 : Bool) (t88 : Int) (k1 : Int) (w23 : World) (Nx2 : Int → World → Prop) : Prop :=
 br (decide (k1 < ((priosN : Nat) : Int))) (
 Calls Try.prog 32 #[.pointer t25P, .int .i64 k1] w23 (fun e w24 => ∃ t98 : Int, ∃ t981 : Bool, ∃ t982 : Int, e = .returned (.tuple #[.int .i64 t98, .bool t981, .int .i64 t982]) ∧
 ∃ t104 : Int, w24.cell? ⟨b, 1, none⟩ = some (.int .i64 t104) ∧
 br (k1 != t104) (
 ∃ t108 : Int, w24.cell? ⟨b, 0, none⟩ = some (.int .i64 t108) ∧
 br (t108 != 8) (
 0 ≤ (k1 : Int) ∧ k1 < (16 : Int) ∧ ∃ t119 : Int, w24.cell? ⟨b1, 0 + k1.toNat * 1, none⟩ = some (.int .i64 t119) ∧
 br (t98 != t119) (
 R (.bool false) w24) (
 0 ≤ (k1 : Int) ∧ k1 < (16 : Int) ∧ ∃ t125 : Bool, w24.cell? ⟨b2, 0 + k1.toNat * 1, none⟩ = some (.bool t125) ∧
 br (!(t981 == t125)) (
 R (.bool false) w24) (
 0 ≤ (k1 : Int) ∧ k1 < (16 : Int) ∧ ∃ t132 : Int, w24.cell? ⟨b3, 0 + k1.toNat * 1, none⟩ = some (.int .i64 t132) ∧
 purlinlaw17_ProcApart.K1 priosA priosN R b k1 Nx2 t98 t981 t982 (t982 != t132) w24))) (
 br (t88 != 0) (
 0 ≤ (k1 : Int) ∧ k1 < (16 : Int) ∧ ∃ t1191 : Int, w24.cell? ⟨b1, 0 + k1.toNat * 1, none⟩ = some (.int .i64 t1191) ∧
 br (t98 != t1191) (
 R (.bool false) w24) (
 0 ≤ (k1 : Int) ∧ k1 < (16 : Int) ∧ ∃ t1251 : Bool, w24.cell? ⟨b2, 0 + k1.toNat * 1, none⟩ = some (.bool t1251) ∧
 br (!(t981 == t1251)) (
 R (.bool false) w24) (
 0 ≤ (k1 : Int) ∧ k1 < (16 : Int) ∧ ∃ t1321 : Int, w24.cell? ⟨b3, 0 + k1.toNat * 1, none⟩ = some (.int .i64 t1321) ∧
 purlinlaw17_ProcApart.K1 priosA priosN R b k1 Nx2 t98 t981 t982 (t982 != t1321) w24))) (
 purlinlaw17_ProcApart.K0 priosA priosN R b k1 Nx2 t98 t981 t982 w24))) (
 br (t88 != 0) (
 0 ≤ (k1 : Int) ∧ k1 < (16 : Int) ∧ ∃ t1192 : Int, w24.cell? ⟨b1, 0 + k1.toNat * 1, none⟩ = some (.int .i64 t1192) ∧
 br (t98 != t1192) (
 R (.bool false) w24) (
 0 ≤ (k1 : Int) ∧ k1 < (16 : Int) ∧ ∃ t1252 : Bool, w24.cell? ⟨b2, 0 + k1.toNat * 1, none⟩ = some (.bool t1252) ∧
 br (!(t981 == t1252)) (
 R (.bool false) w24) (
 0 ≤ (k1 : Int) ∧ k1 < (16 : Int) ∧ ∃ t1322 : Int, w24.cell? ⟨b3, 0 + k1.toNat * 1, none⟩ = some (.int .i64 t1322) ∧
 purlinlaw17_ProcApart.K1 priosA priosN R b k1 Nx2 t98 t981 t982 (t982 != t1322) w24))) (
 purlinlaw17_ProcApart.K0 priosA priosN R b k1 Nx2 t98 t981 t982 w24)))) (
 Calls Try.prog 26 #[.pointer t25P] w23 (fun e w26 => ∃ t157 : Int, ∃ t1571 : Bool, e = .returned (.tuple #[.int .i64 t157, .bool t1571]) ∧
 br (t88 == 0) (
 R (.bool true) w26) (
 br (t157 == t83) (
 R (.bool (t1571 == t831)) w26) (
 R (.bool false) w26))))

def purlinlaw17_ProcApart.L1 (priosA : Option Addr) (priosN : Nat) (R : Value → World → Prop) (b : Nat) (t25P : Option Addr) (b1 : Nat) (b2 : Nat) (b3 : Nat) (dead : Nat → Value) (k : Int) (w16 : World) (Nx1 : Int → World → Prop) : Prop :=
 br (decide (k < ((priosN : Nat) : Int))) (
 Calls Try.prog 32 #[.pointer t25P, .int .i64 k] w16 (fun e w17 => ∃ t74 : Int, ∃ t741 : Bool, ∃ t742 : Int, e = .returned (.tuple #[.int .i64 t74, .bool t741, .int .i64 t742]) ∧
 0 ≤ (k : Int) ∧ k < (16 : Int) ∧ storeC w17 b1 (0 + k.toNat * 1) [.int .i64 t74] fun w18 =>
 0 ≤ (k : Int) ∧ k < (16 : Int) ∧ storeC w18 b2 (0 + k.toNat * 1) [.bool t741] fun w19 =>
 0 ≤ (k : Int) ∧ k < (16 : Int) ∧ storeC w19 b3 (0 + k.toNat * 1) [.int .i64 t742] fun w20 =>
 Nx1 (IntKind.wrap .i64 (k + 1)) w20)) (
 Calls Try.prog 26 #[.pointer t25P] w16 (fun e w21 => ∃ t83 : Int, ∃ t831 : Bool, e = .returned (.tuple #[.int .i64 t83, .bool t831]) ∧
 ∃ t87 : Int, w21.cell? ⟨b, 0, none⟩ = some (.int .i64 t87) ∧ ∃ t871 : Int, w21.cell? ⟨b, 1, none⟩ = some (.int .i64 t871) ∧ ∃ t872 : Int, w21.cell? ⟨b, 2, none⟩ = some (.int .i64 t872) ∧ 
 Calls Try.prog 25 #[.pointer t25P, .agg #[.int .i64 t87, .int .i64 t871, .int .i64 t872]] w21 (fun e w22 => ∃ t88 : Int, e = .returned (.int .i64 t88) ∧
 ∃ I : Nat → Int → World → Prop, (∃ n, I n 0 w22) ∧ ∀ (n9 : Nat) (dead : Nat → Value) (w23 : World) (k1 : Int), I n9 k1 w23 →
 purlinlaw17_ProcApart.L2 priosA priosN R b t25P b1 b2 b3 t83 t831 t88 k1 w23 (fun x0 w9 => ∃ m, m < n9 ∧ I m x0 w9))))

def purlinlaw17_ProcApart.K2 (priosA : Option Addr) (priosN : Nat) (R : Value → World → Prop) (b : Nat) (t25P : Option Addr) (w8 : World) : Prop :=
 ∃ t60 : Int, w8.cell? ⟨b, 0, none⟩ = some (.int .i64 t60) ∧ ∃ t601 : Int, w8.cell? ⟨b, 1, none⟩ = some (.int .i64 t601) ∧ ∃ t602 : Int, w8.cell? ⟨b, 2, none⟩ = some (.int .i64 t602) ∧ 
 Calls Try.prog 23 #[.agg #[.int .i64 t60, .int .i64 t601, .int .i64 t602]] w8 (fun e w11 => ∃ t61 : Int, ∃ t611 : Int, ∃ t612 : Int, e = .returned (.agg #[.int .i64 t61, .int .i64 t611, .int .i64 t612]) ∧
 storeC w11 b 0 [.int .i64 t61, .int .i64 t611, .int .i64 t612] fun w12 =>
 newBlk w12 (.cells #[.int .i64 0, .int .i64 0, .int .i64 0, .int .i64 0, .int .i64 0, .int .i64 0, .int .i64 0, .int .i64 0, .int .i64 0, .int .i64 0, .int .i64 0, .int .i64 0, .int .i64 0, .int .i64 0, .int .i64 0, .int .i64 0] 64 (0, 0)) fun b1 w13 =>
 newBlk w13 (.cells #[.bool false, .bool false, .bool false, .bool false, .bool false, .bool false, .bool false, .bool false, .bool false, .bool false, .bool false, .bool false, .bool false, .bool false, .bool false, .bool false] 62 (0, 0)) fun b2 w14 =>
 newBlk w14 (.cells #[.int .i64 0, .int .i64 0, .int .i64 0, .int .i64 0, .int .i64 0, .int .i64 0, .int .i64 0, .int .i64 0, .int .i64 0, .int .i64 0, .int .i64 0, .int .i64 0, .int .i64 0, .int .i64 0, .int .i64 0, .int .i64 0] 65 (0, 0)) fun b3 w15 =>
 ∃ I : Nat → Int → World → Prop, (∃ n, I n 0 w15) ∧ ∀ (n9 : Nat) (dead : Nat → Value) (w16 : World) (k : Int), I n9 k w16 →
 purlinlaw17_ProcApart.L1 priosA priosN R b t25P b1 b2 b3 dead k w16 (fun x0 w9 => ∃ m, m < n9 ∧ I m x0 w9))

def purlinlaw17_ProcApart.L0 (priosA : Option Addr) (priosN : Nat) (callsA : Option Addr) (callsN : Nat) (R : Value → World → Prop) (b : Nat) (t25P : Option Addr) (i : Int) (w8 : World) (Nx0 : Int → World → Prop) : Prop :=
 br (decide (i < ((callsN : Nat) : Int))) (
 br (decide (i < 40)) (
 0 ≤ (i : Int) ∧ i < ((callsN : Nat) : Int) ∧ okP callsA (
 ∃ t57 : Int, w8.cell? ⟨(pb callsA), po callsA + i.toNat * 3, none⟩ = some (.int .i64 t57) ∧ ∃ t571 : Int, w8.cell? ⟨(pb callsA), po callsA + i.toNat * 3 + 1, none⟩ = some (.int .i64 t571) ∧ ∃ t572 : Int, w8.cell? ⟨(pb callsA), po callsA + i.toNat * 3 + 2, none⟩ = some (.int .i64 t572) ∧ 
 Calls Try.prog 23 #[.agg #[.int .i64 t57, .int .i64 t571, .int .i64 t572]] w8 (fun e w9 => ∃ t58 : Int, ∃ t581 : Int, ∃ t582 : Int, e = .returned (.agg #[.int .i64 t58, .int .i64 t581, .int .i64 t582]) ∧
 Calls Try.prog 25 #[.pointer t25P, .agg #[.int .i64 t58, .int .i64 t581, .int .i64 t582]] w9 (fun e w10 => ∃ t59 : Int, e = .returned (.int .i64 t59) ∧
 Nx0 (IntKind.wrap .i64 (i + 1)) w10)))) (
 purlinlaw17_ProcApart.K2 priosA priosN R b t25P w8)) (
 purlinlaw17_ProcApart.K2 priosA priosN R b t25P w8)

def purlinlaw17_ProcApart.F (priosA : Option Addr) (priosN : Nat) (priosC : Nat) (callsA : Option Addr) (callsN : Nat) (callsC : Nat) (c : Int) (c1 : Int) (c2 : Int) (w : World) (R : Value → World → Prop) : Prop :=
 newBlk w (.cells #[.int .i64 c, .int .i64 c1, .int .i64 c2] 46 (0, 0)) fun b w1 =>
 Calls Try.prog 20 #[.slice priosA priosN priosC] w1 (fun e w2 => ∃ t25P : Option Addr, ∃ t25 : Int, e = .returned (.tuple #[.pointer t25P, .int .i64 t25]) ∧
 Calls Try.prog 22 #[] w2 (fun e w3 => ∃ t28 : Bool, e = .returned (.bool t28) ∧
 br (!t28) (
 Calls Try.prog 22 #[] w3 (fun e w4 => ∃ t38 : Bool, e = .returned (.bool t38) ∧
 br t38 (
 R (.bool ((t25P : Option Addr).isNone)) w4) (
 R (.bool false) w4))) (
 br (t25 != 0) (
 Calls Try.prog 22 #[] w3 (fun e w4 => ∃ t38 : Bool, e = .returned (.bool t38) ∧
 br t38 (
 R (.bool ((t25P : Option Addr).isNone)) w4) (
 R (.bool false) w4))) (
 br ((t25P : Option Addr).isNone) (
 Calls Try.prog 22 #[] w3 (fun e w7 => ∃ t381 : Bool, e = .returned (.bool t381) ∧
 br t381 (
 R (.bool ((t25P : Option Addr).isNone)) w7) (
 R (.bool false) w7))) (
 ∃ I : Nat → Int → World → Prop, (∃ n, I n 0 w3) ∧ ∀ (n9 : Nat) (dead : Nat → Value) (w8 : World) (i : Int), I n9 i w8 →
 purlinlaw17_ProcApart.L0 priosA priosN callsA callsN R b t25P i w8 (fun x0 w9 => ∃ m, m < n9 ∧ I m x0 w9))))))

theorem purlinlaw17_ProcApart.vc (priosA : Option Addr) (priosN : Nat) (priosC : Nat) (callsA : Option Addr) (callsN : Nat) (callsC : Nat) (c : Int) (c1 : Int) (c2 : Int) (w : World) (R : Value → World → Prop) : fnVC Try.prog purlinlaw17_ProcApart.A Try.f7 [.slice priosA priosN priosC, .slice callsA callsN callsC, .agg #[.int .i64 c, .int .i64 c1, .int .i64 c2]] w R = purlinlaw17_ProcApart.F priosA priosN priosC callsA callsN callsC c c1 c2 w R := by kernel_rfl
theorem purlinlaw17_ProcApart.calls (priosA : Option Addr) (priosN : Nat) (priosC : Nat) (callsA : Option Addr) (callsN : Nat) (callsC : Nat) (c : Int) (c1 : Int) (c2 : Int) (w : World) (R : Value → World → Prop) (h : purlinlaw17_ProcApart.F priosA priosN priosC callsA callsN callsC c c1 c2 w R) : Calls Try.prog 7 #[.slice priosA priosN priosC, .slice callsA callsN callsC, .agg #[.int .i64 c, .int .i64 c1, .int .i64 c2]] w (Ret R) :=
  calls_of_vc mixed Try.func7 (Eq.mpr (purlinlaw17_ProcApart.vc priosA priosN priosC callsA callsN callsC c c1 c2 w R) h)

end Go.Proofs.Ytecacohkkdhphaa
