/- Printed by vcgen.py: of each function of this text its weakest precondition as a formula, and that it is one. Conditions: none. -/
import Derived.Test.YtecacohkkdhphaaVcCode
import Derived.Test.YtecacohkkdhphaaVcMem
import Derived.Test.YtecacohkkdhphaaChecked
namespace Go.Proofs.Ytecacohkkdhphaa
open Go.Vc
set_option linter.unusedVariables false
set_option maxRecDepth 100000

/-! ### purlin/purlinlaw17.ProcRuns: function 5 -/
def purlinlaw17_ProcRuns.A : Ann where
  sched := fun i => match i with
    | _ => none
  loop := fun i => match i with
    | 5 => some [(4, none), (7, some (.one (.int .i64))), (8, none), (9, none), (10, none), (11, none), (12, none), (13, none), (14, none), (15, none), (16, none), (17, none), (38, none), (39, none), (40, none), (41, none), (42, none), (43, none), (44, none), (45, none), (46, none), (47, none), (48, none), (49, none), (50, none), (51, none), (52, none), (53, none), (54, none), (55, none), (56, none), (57, none), (58, none), (59, none), (60, none), (61, none), (62, none), (63, none), (64, none), (65, none), (66, none), (67, none), (68, none), (69, none), (70, none), (71, none), (72, none), (73, none), (74, none), (75, none), (76, none), (77, none), (78, none), (79, none), (80, none), (81, none), (82, none), (83, none), (84, none), (85, none), (86, none), (87, none), (88, none), (89, none), (90, none), (91, none), (92, none), (93, none), (94, none), (95, none), (96, none), (97, none), (98, none), (99, none), (100, none), (101, none), (102, none), (103, none), (104, none), (105, none), (106, none), (107, none), (108, none), (109, none), (110, none), (111, none), (112, none), (113, none), (114, none), (115, none), (116, none), (117, none), (118, none)]
    | 11 => some [(10, some (.one (.int .i64))), (11, some (.one (.int .i64))), (12, none), (13, none), (14, none), (60, none), (61, none), (62, none), (63, none), (64, none), (65, none), (66, none), (67, none), (68, none), (69, none), (70, none), (71, none), (72, none), (73, none), (74, none), (75, none), (76, none), (77, none), (78, none), (79, none), (80, none), (81, none), (82, none), (83, none), (84, none)]
    | _ => none

def purlinlaw17_ProcRuns.L1 (priosN : Nat) (R : Value → World → Prop) (t20P : Option Addr) (i : Int) (Nx0 : Int → World → Prop) (t57 : Int) (t571 : Bool) (most : Int) (k : Int) (w11 : World) (Nx1 : Int → Int → World → Prop) : Prop :=
 br (decide (k < ((priosN : Nat) : Int))) (
 Calls Try.prog 32 #[.pointer t20P, .int .i64 k] w11 (fun e w12 => ∃ t69 : Int, ∃ t691 : Bool, ∃ t692 : Int, e = .returned (.tuple #[.int .i64 t69, .bool t691, .int .i64 t692]) ∧
 br (t69 == 1) (
 br (!t691) (
 br (decide (t692 > most)) (
 Nx1 t692 (IntKind.wrap .i64 (k + 1)) w12) (
 Nx1 most (IntKind.wrap .i64 (k + 1)) w12)) (
 Nx1 most (IntKind.wrap .i64 (k + 1)) w12)) (
 Nx1 most (IntKind.wrap .i64 (k + 1)) w12))) (
 Calls Try.prog 32 #[.pointer t20P, .int .i64 t57] w11 (fun e w14 => ∃ t88 : Int, ∃ t881 : Bool, ∃ t882 : Int, e = .returned (.tuple #[.int .i64 t88, .bool t881, .int .i64 t882]) ∧
 br (!(t571 == (decide (most ≥ 0)))) (
 R (.bool false) w14) (
 br t571 (
 br (t88 != 1) (
 R (.bool false) w14) (
 br t881 (
 R (.bool false) w14) (
 br (t882 != most) (
 R (.bool false) w14) (
 br (!t571) (
 br (t57 != 0) (
 R (.bool false) w14) (
 Nx0 (IntKind.wrap .i64 (i + 1)) w14)) (
 Nx0 (IntKind.wrap .i64 (i + 1)) w14))))) (
 br (!t571) (
 br (t57 != 0) (
 R (.bool false) w14) (
 Nx0 (IntKind.wrap .i64 (i + 1)) w14)) (
 Nx0 (IntKind.wrap .i64 (i + 1)) w14)))))

def purlinlaw17_ProcRuns.L0 (priosN : Nat) (callsA : Option Addr) (callsN : Nat) (R : Value → World → Prop) (t20P : Option Addr) (dead : Nat → Value) (i : Int) (w7 : World) (Nx0 : Int → World → Prop) : Prop :=
 br (decide (i < ((callsN : Nat) : Int))) (
 br (decide (i < 60)) (
 0 ≤ (i : Int) ∧ i < ((callsN : Nat) : Int) ∧ okP callsA (
 ∃ t52 : Int, w7.cell? ⟨(pb callsA), po callsA + i.toNat * 3, none⟩ = some (.int .i64 t52) ∧ ∃ t521 : Int, w7.cell? ⟨(pb callsA), po callsA + i.toNat * 3 + 1, none⟩ = some (.int .i64 t521) ∧ ∃ t522 : Int, w7.cell? ⟨(pb callsA), po callsA + i.toNat * 3 + 2, none⟩ = some (.int .i64 t522) ∧ 
 Calls Try.prog 23 #[.agg #[.int .i64 t52, .int .i64 t521, .int .i64 t522]] w7 (fun e w8 => ∃ t53 : Int, ∃ t531 : Int, ∃ t532 : Int, e = .returned (.agg #[.int .i64 t53, .int .i64 t531, .int .i64 t532]) ∧
 Calls Try.prog 25 #[.pointer t20P, .agg #[.int .i64 t53, .int .i64 t531, .int .i64 t532]] w8 (fun e w9 => ∃ t54 : Int, e = .returned (.int .i64 t54) ∧
 Calls Try.prog 26 #[.pointer t20P] w9 (fun e w10 => ∃ t57 : Int, ∃ t571 : Bool, e = .returned (.tuple #[.int .i64 t57, .bool t571]) ∧
 ∃ I : Nat → Int → Int → World → Prop, (∃ n, I n (-1) 0 w10) ∧ ∀ (n9 : Nat) (dead : Nat → Value) (w11 : World) (most : Int) (k : Int), I n9 most k w11 →
 purlinlaw17_ProcRuns.L1 priosN R t20P i Nx0 t57 t571 most k w11 (fun x0 x1 w9 => ∃ m, m < n9 ∧ I m x0 x1 w9)))))) (
 R (.bool true) w7)) (
 R (.bool true) w7)

def purlinlaw17_ProcRuns.F (priosA : Option Addr) (priosN : Nat) (priosC : Nat) (callsA : Option Addr) (callsN : Nat) (callsC : Nat) (w : World) (R : Value → World → Prop) : Prop :=
 Calls Try.prog 20 #[.slice priosA priosN priosC] w (fun e w1 => ∃ t20P : Option Addr, ∃ t20 : Int, e = .returned (.tuple #[.pointer t20P, .int .i64 t20]) ∧
 Calls Try.prog 22 #[] w1 (fun e w2 => ∃ t23 : Bool, e = .returned (.bool t23) ∧
 br (!t23) (
 Calls Try.prog 22 #[] w2 (fun e w3 => ∃ t33 : Bool, e = .returned (.bool t33) ∧
 br t33 (
 R (.bool ((t20P : Option Addr).isNone)) w3) (
 R (.bool false) w3))) (
 br (t20 != 0) (
 Calls Try.prog 22 #[] w2 (fun e w3 => ∃ t33 : Bool, e = .returned (.bool t33) ∧
 br t33 (
 R (.bool ((t20P : Option Addr).isNone)) w3) (
 R (.bool false) w3))) (
 br ((t20P : Option Addr).isNone) (
 Calls Try.prog 22 #[] w2 (fun e w6 => ∃ t331 : Bool, e = .returned (.bool t331) ∧
 br t331 (
 R (.bool ((t20P : Option Addr).isNone)) w6) (
 R (.bool false) w6))) (
 ∃ I : Nat → Int → World → Prop, (∃ n, I n 0 w2) ∧ ∀ (n9 : Nat) (dead : Nat → Value) (w7 : World) (i : Int), I n9 i w7 →
 purlinlaw17_ProcRuns.L0 priosN callsA callsN R t20P dead i w7 (fun x0 w9 => ∃ m, m < n9 ∧ I m x0 w9))))))

theorem purlinlaw17_ProcRuns.vc (priosA : Option Addr) (priosN : Nat) (priosC : Nat) (callsA : Option Addr) (callsN : Nat) (callsC : Nat) (w : World) (R : Value → World → Prop) : fnVC Try.prog purlinlaw17_ProcRuns.A Try.f5 [.slice priosA priosN priosC, .slice callsA callsN callsC] w R = purlinlaw17_ProcRuns.F priosA priosN priosC callsA callsN callsC w R := by kernel_rfl
theorem purlinlaw17_ProcRuns.calls (priosA : Option Addr) (priosN : Nat) (priosC : Nat) (callsA : Option Addr) (callsN : Nat) (callsC : Nat) (w : World) (R : Value → World → Prop) (h : purlinlaw17_ProcRuns.F priosA priosN priosC callsA callsN callsC w R) : Calls Try.prog 5 #[.slice priosA priosN priosC, .slice callsA callsN callsC] w (Ret R) :=
  calls_of_vc mixed Try.func5 (Eq.mpr (purlinlaw17_ProcRuns.vc priosA priosN priosC callsA callsN callsC w R) h)

end Go.Proofs.Ytecacohkkdhphaa
