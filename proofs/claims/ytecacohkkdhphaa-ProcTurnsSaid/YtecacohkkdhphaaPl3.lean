/- Printed by vcgen.py: of each function of this text its weakest precondition as a formula, and that it is one. Conditions: none. -/
import Derived.Test.YtecacohkkdhphaaVcCode
import Derived.Test.YtecacohkkdhphaaVcMem
import Derived.Test.YtecacohkkdhphaaChecked
namespace Go.Proofs.Ytecacohkkdhphaa
open Go.Vc
set_option linter.unusedVariables false
set_option maxRecDepth 100000

/-! ### purlin/purlinlaw17.ProcTurns: function 6 -/
def purlinlaw17_ProcTurns.A : Ann where
  sched := fun i => match i with
    | _ => none
  loop := fun i => match i with
    | 5 => some [(7, some (.one (.int .i64))), (44, none), (45, none), (46, none), (47, none), (48, none), (49, none), (50, none), (51, none), (52, none), (53, none), (54, none), (55, none), (56, none), (57, none), (58, none), (59, none), (60, none)]
    | 15 => some [(14, some (.one (.int .i64))), (15, some (.one (.int .i64))), (16, none), (17, none), (18, none), (75, none), (76, none), (77, none), (78, none), (79, none), (80, none), (81, none), (82, none), (83, none), (84, none), (85, none), (86, none), (87, none), (88, none), (89, none), (90, none), (91, none), (92, none), (93, none), (94, none), (95, none), (96, none), (97, none), (98, none), (99, none), (100, none)]
    | 21 => some [(4, none), (19, some (.one (.int .i64))), (20, none), (21, none), (101, none), (102, none), (103, none), (104, none), (105, none), (106, none), (107, none), (108, none), (109, none), (110, none), (111, none), (112, none), (113, none), (114, none), (115, none), (116, none), (117, none), (118, none), (119, none), (120, none), (121, none), (122, none), (123, none), (124, none), (125, none), (126, none), (127, none), (128, none), (129, none), (130, none), (131, none), (132, none), (133, none)]
    | _ => none

def purlinlaw17_ProcTurns.L2 (R : Value → World → Prop) (t26P : Option Addr) (t63 : Int) (b : Nat) (n : Int) (k1 : Int) (w16 : World) (Nx2 : Int → World → Prop) : Prop :=
 br (decide (k1 < n)) (
 Calls Try.prog 26 #[.pointer t26P] w16 (fun e w17 => ∃ t108 : Int, ∃ t1081 : Bool, e = .returned (.tuple #[.int .i64 t108, .bool t1081]) ∧
 br (!t1081) (
 R (.bool false) w17) (
 br (decide (t108 < 0)) (
 R (.bool false) w17) (
 br (decide (t108 ≥ 16)) (
 R (.bool false) w17) (
 0 ≤ (t108 : Int) ∧ t108 < (16 : Int) ∧ ∃ t124 : Bool, w17.cell? ⟨b, 0 + t108.toNat * 1, none⟩ = some (.bool t124) ∧
 br t124 (
 R (.bool false) w17) (
 Calls Try.prog 33 #[.pointer t26P, .int .i64 t108] w17 (fun e w19 => ∃ t129 : Int, e = .returned (.int .i64 t129) ∧
 br (t129 != 0) (
 R (.bool false) w19) (
 0 ≤ (t108 : Int) ∧ t108 < (16 : Int) ∧ storeC w19 b (0 + t108.toNat * 1) [.bool true] fun w20 =>
 Nx2 (IntKind.wrap .i64 (k1 + 1)) w20)))))))) (
 Calls Try.prog 26 #[.pointer t26P] w16 (fun e w21 => ∃ t136 : Int, ∃ t1361 : Bool, e = .returned (.tuple #[.int .i64 t136, .bool t1361]) ∧
 R (.bool (t136 == t63)) w21))

def purlinlaw17_ProcTurns.L1 (priosN : Nat) (R : Value → World → Prop) (t26P : Option Addr) (t63 : Int) (t712 : Int) (b : Nat) (dead : Nat → Value) (n : Int) (k : Int) (w13 : World) (Nx1 : Int → Int → World → Prop) : Prop :=
 br (decide (k < ((priosN : Nat) : Int))) (
 Calls Try.prog 32 #[.pointer t26P, .int .i64 k] w13 (fun e w14 => ∃ t84 : Int, ∃ t841 : Bool, ∃ t842 : Int, e = .returned (.tuple #[.int .i64 t84, .bool t841, .int .i64 t842]) ∧
 br (t84 == 1) (
 br (!t841) (
 br (t842 == t712) (
 Nx1 (IntKind.wrap .i64 (n + 1)) (IntKind.wrap .i64 (k + 1)) w14) (
 Nx1 n (IntKind.wrap .i64 (k + 1)) w14)) (
 Nx1 n (IntKind.wrap .i64 (k + 1)) w14)) (
 Nx1 n (IntKind.wrap .i64 (k + 1)) w14))) (
 ∃ I : Nat → Int → World → Prop, (∃ n, I n 0 w13) ∧ ∀ (n9 : Nat) (dead : Nat → Value) (w16 : World) (k1 : Int), I n9 k1 w16 →
 purlinlaw17_ProcTurns.L2 R t26P t63 b n k1 w16 (fun x0 w9 => ∃ m, m < n9 ∧ I m x0 w9))

def purlinlaw17_ProcTurns.K0 (priosN : Nat) (R : Value → World → Prop) (t26P : Option Addr) (w7 : World) : Prop :=
 Calls Try.prog 26 #[.pointer t26P] w7 (fun e w10 => ∃ t63 : Int, ∃ t631 : Bool, e = .returned (.tuple #[.int .i64 t63, .bool t631]) ∧
 br (!t631) (
 R (.bool true) w10) (
 Calls Try.prog 32 #[.pointer t26P, .int .i64 t63] w10 (fun e w11 => ∃ t71 : Int, ∃ t711 : Bool, ∃ t712 : Int, e = .returned (.tuple #[.int .i64 t71, .bool t711, .int .i64 t712]) ∧
 newBlk w11 (.cells #[.bool false, .bool false, .bool false, .bool false, .bool false, .bool false, .bool false, .bool false, .bool false, .bool false, .bool false, .bool false, .bool false, .bool false, .bool false, .bool false] 62 (0, 0)) fun b w12 =>
 ∃ I : Nat → Int → Int → World → Prop, (∃ n, I n 0 0 w12) ∧ ∀ (n9 : Nat) (dead : Nat → Value) (w13 : World) (n : Int) (k : Int), I n9 n k w13 →
 purlinlaw17_ProcTurns.L1 priosN R t26P t63 t712 b dead n k w13 (fun x0 x1 w9 => ∃ m, m < n9 ∧ I m x0 x1 w9))))

def purlinlaw17_ProcTurns.L0 (priosN : Nat) (callsA : Option Addr) (callsN : Nat) (R : Value → World → Prop) (t26P : Option Addr) (i : Int) (w7 : World) (Nx0 : Int → World → Prop) : Prop :=
 br (decide (i < ((callsN : Nat) : Int))) (
 br (decide (i < 60)) (
 0 ≤ (i : Int) ∧ i < ((callsN : Nat) : Int) ∧ okP callsA (
 ∃ t58 : Int, w7.cell? ⟨(pb callsA), po callsA + i.toNat * 3, none⟩ = some (.int .i64 t58) ∧ ∃ t581 : Int, w7.cell? ⟨(pb callsA), po callsA + i.toNat * 3 + 1, none⟩ = some (.int .i64 t581) ∧ ∃ t582 : Int, w7.cell? ⟨(pb callsA), po callsA + i.toNat * 3 + 2, none⟩ = some (.int .i64 t582) ∧ 
 Calls Try.prog 23 #[.agg #[.int .i64 t58, .int .i64 t581, .int .i64 t582]] w7 (fun e w8 => ∃ t59 : Int, ∃ t591 : Int, ∃ t592 : Int, e = .returned (.agg #[.int .i64 t59, .int .i64 t591, .int .i64 t592]) ∧
 Calls Try.prog 25 #[.pointer t26P, .agg #[.int .i64 t59, .int .i64 t591, .int .i64 t592]] w8 (fun e w9 => ∃ t60 : Int, e = .returned (.int .i64 t60) ∧
 Nx0 (IntKind.wrap .i64 (i + 1)) w9)))) (
 purlinlaw17_ProcTurns.K0 priosN R t26P w7)) (
 purlinlaw17_ProcTurns.K0 priosN R t26P w7)

def purlinlaw17_ProcTurns.F (priosA : Option Addr) (priosN : Nat) (priosC : Nat) (callsA : Option Addr) (callsN : Nat) (callsC : Nat) (w : World) (R : Value → World → Prop) : Prop :=
 Calls Try.prog 20 #[.slice priosA priosN priosC] w (fun e w1 => ∃ t26P : Option Addr, ∃ t26 : Int, e = .returned (.tuple #[.pointer t26P, .int .i64 t26]) ∧
 Calls Try.prog 22 #[] w1 (fun e w2 => ∃ t29 : Bool, e = .returned (.bool t29) ∧
 br (!t29) (
 Calls Try.prog 22 #[] w2 (fun e w3 => ∃ t39 : Bool, e = .returned (.bool t39) ∧
 br t39 (
 R (.bool ((t26P : Option Addr).isNone)) w3) (
 R (.bool false) w3))) (
 br (t26 != 0) (
 Calls Try.prog 22 #[] w2 (fun e w3 => ∃ t39 : Bool, e = .returned (.bool t39) ∧
 br t39 (
 R (.bool ((t26P : Option Addr).isNone)) w3) (
 R (.bool false) w3))) (
 br ((t26P : Option Addr).isNone) (
 Calls Try.prog 22 #[] w2 (fun e w6 => ∃ t391 : Bool, e = .returned (.bool t391) ∧
 br t391 (
 R (.bool ((t26P : Option Addr).isNone)) w6) (
 R (.bool false) w6))) (
 ∃ I : Nat → Int → World → Prop, (∃ n, I n 0 w2) ∧ ∀ (n9 : Nat) (dead : Nat → Value) (w7 : World) (i : Int), I n9 i w7 →
 purlinlaw17_ProcTurns.L0 priosN callsA callsN R t26P i w7 (fun x0 w9 => ∃ m, m < n9 ∧ I m x0 w9))))))

theorem purlinlaw17_ProcTurns.vc (priosA : Option Addr) (priosN : Nat) (priosC : Nat) (callsA : Option Addr) (callsN : Nat) (callsC : Nat) (w : World) (R : Value → World → Prop) : fnVC Try.prog purlinlaw17_ProcTurns.A Try.f6 [.slice priosA priosN priosC, .slice callsA callsN callsC] w R = purlinlaw17_ProcTurns.F priosA priosN priosC callsA callsN callsC w R := by kernel_rfl
theorem purlinlaw17_ProcTurns.calls (priosA : Option Addr) (priosN : Nat) (priosC : Nat) (callsA : Option Addr) (callsN : Nat) (callsC : Nat) (w : World) (R : Value → World → Prop) (h : purlinlaw17_ProcTurns.F priosA priosN priosC callsA callsN callsC w R) : Calls Try.prog 6 #[.slice priosA priosN priosC, .slice callsA callsN callsC] w (Ret R) :=
  calls_of_vc mixed Try.func6 (Eq.mpr (purlinlaw17_ProcTurns.vc priosA priosN priosC callsA callsN callsC w R) h)

end Go.Proofs.Ytecacohkkdhphaa
