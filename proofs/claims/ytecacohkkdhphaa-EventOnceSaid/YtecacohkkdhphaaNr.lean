/- Printed by vcgen.py: of each function of this text its weakest precondition as a formula, and that it is one. Conditions: none. -/
import Derived.Test.YtecacohkkdhphaaVcCode
import Derived.Test.YtecacohkkdhphaaVcMem
import Derived.Test.YtecacohkkdhphaaChecked
namespace Go.Proofs.Ytecacohkkdhphaa
open Go.Vc
set_option linter.unusedVariables false
set_option maxRecDepth 100000

/-! ### purlin/purlinref14.find: function 75 -/
def purlinref14_find.A : Ann where
  sched := fun i => match i with
    | _ => none
  loop := fun i => match i with
    | 2 => some [(4, none), (5, some (.one (.int .i64))), (6, none), (7, none), (8, none), (9, none), (10, none), (11, none), (12, none), (13, none), (14, none), (15, none), (16, none), (17, none), (18, none), (19, none)]
    | _ => none

def purlinref14_find.L0 (lA : Option Addr) (lN : Nat) (id : Int) (R : Value → World → Prop) (i : Int) (w1 : World) (Nx0 : Int → World → Prop) : Prop :=
 br (decide (i < ((lN : Nat) : Int))) (
 0 ≤ (i : Int) ∧ i < ((lN : Nat) : Int) ∧ okP lA (
 ∃ t16 : Int, w1.cell? ⟨(pb lA), po lA + i.toNat * 3, none⟩ = some (.int .i64 t16) ∧
 br (t16 == id) (
 R (.int .i64 i) w1) (
 Nx0 (IntKind.wrap .i64 (i + 1)) w1))) (
 R (.int .i64 (-1)) w1)

def purlinref14_find.F (lA : Option Addr) (lN : Nat) (lC : Nat) (id : Int) (w : World) (R : Value → World → Prop) : Prop :=
 ∃ I : Nat → Int → World → Prop, (∃ n, I n 0 w) ∧ ∀ (n9 : Nat) (dead : Nat → Value) (w1 : World) (i : Int), I n9 i w1 →
 purlinref14_find.L0 lA lN id R i w1 (fun x0 w9 => ∃ m, m < n9 ∧ I m x0 w9)

theorem purlinref14_find.vc (lA : Option Addr) (lN : Nat) (lC : Nat) (id : Int) (w : World) (R : Value → World → Prop) : fnVC Try.prog purlinref14_find.A Try.f75 [.slice lA lN lC, .int .i64 id] w R = purlinref14_find.F lA lN lC id w R := by kernel_rfl
theorem purlinref14_find.calls (lA : Option Addr) (lN : Nat) (lC : Nat) (id : Int) (w : World) (R : Value → World → Prop) (h : purlinref14_find.F lA lN lC id w R) : Calls Try.prog 75 #[.slice lA lN lC, .int .i64 id] w (Ret R) :=
  calls_of_vc mixed Try.func75 (Eq.mpr (purlinref14_find.vc lA lN lC id w R) h)

/-! ### purlin/purlinref14.without: function 76 -/
def purlinref14_without.A : Ann where
  sched := fun i => match i with
    | 1 => some (none, .still 1 true 485 <| .still 2 true 483 <| .still 3 true 487 <| .still 5 true 223 <| .still 6 true 63 <| .still 7 true 127 <| .still 8 true 255 <| .eff 0 <| .eff 4 <| .eff 9 <| .still 10 false 1023 <| .done)
    | _ => none
  loop := fun i => match i with
    | _ => none

def purlinref14_without.F (lA : Option Addr) (lN : Nat) (lC : Nat) (at1 : Int) (w : World) (R : Value → World → Prop) : Prop :=
 drawC w fun w1 =>
 0 ≤ at1 ∧ at1 ≤ ((lC : Nat) : Int) ∧
 0 ≤ IntKind.wrap .i64 (at1 + 1) ∧ IntKind.wrap .i64 (at1 + 1) ≤ ((lN : Nat) : Int) ∧
 newBlk w1 (.cells #[] 135 (0, 0)) fun b w2 =>
 ∃ t9A : Option Addr, ∃ t9N : Nat, ∃ t9C : Nat, ∃ w3 : World, (Builtin.append_ #[75, 75] 75 #[.slice (some ⟨b, 0, none⟩) 0 0, .slice (cutBase lA 0 lC 3) (at1.toNat - 0) (lC - 0)]).run Try.prog w2 = .ok (.slice t9A t9N t9C) w3 ∧
 ∃ t14A : Option Addr, ∃ t14N : Nat, ∃ t14C : Nat, ∃ w4 : World, (Builtin.append_ #[75, 75] 75 #[.slice t9A t9N t9C, .slice (cutBase lA ((IntKind.wrap .i64 (at1 + 1)).toNat) lC 3) (lN - (IntKind.wrap .i64 (at1 + 1)).toNat) (lC - (IntKind.wrap .i64 (at1 + 1)).toNat)]).run Try.prog w3 = .ok (.slice t14A t14N t14C) w4 ∧
 R (.slice t14A t14N t14C) w4

theorem purlinref14_without.vc (lA : Option Addr) (lN : Nat) (lC : Nat) (at1 : Int) (w : World) (R : Value → World → Prop) : fnVC Try.prog purlinref14_without.A Try.f76 [.slice lA lN lC, .int .i64 at1] w R = purlinref14_without.F lA lN lC at1 w R := by kernel_rfl
theorem purlinref14_without.calls (lA : Option Addr) (lN : Nat) (lC : Nat) (at1 : Int) (w : World) (R : Value → World → Prop) (h : purlinref14_without.F lA lN lC at1 w R) : Calls Try.prog 76 #[.slice lA lN lC, .int .i64 at1] w (Ret R) :=
  calls_of_vc mixed Try.func76 (Eq.mpr (purlinref14_without.vc lA lN lC at1 w R) h)

/-! ### purlin/purlinref14.Order: function 77 -/
def purlinref14_Order.A : Ann where
  sched := fun i => match i with
    | _ => none
  loop := fun i => match i with
    | 3 => some [(3, some (.one (.slice))), (4, some (.one (.int .i64))), (5, none), (7, none), (8, none), (9, none), (10, none), (11, none), (12, none), (13, none), (14, none), (15, none), (16, none), (17, none), (18, none), (19, none), (20, none), (21, none), (22, none), (23, none), (24, none), (25, none), (26, none), (27, none), (28, none), (29, none), (30, none)]
    | 6 => some [(3, some (.one (.slice))), (5, some (.one (.int .i64))), (11, none), (12, none), (13, none), (14, none), (15, none), (16, none), (17, none), (18, none), (19, none), (20, none), (21, none), (22, none), (23, none), (24, none), (25, none), (26, none), (27, none), (28, none), (29, none), (30, none)]
    | _ => none

def purlinref14_Order.L1 (lA : Option Addr) (lN : Nat) (prio : Int) (Nx0 : Option Addr → Nat → Nat → Int → World → Prop) (outA1 : Option Addr) (outN1 : Nat) (outC1 : Nat) (i : Int) (w3 : World) (Nx1 : Option Addr → Nat → Nat → Int → World → Prop) : Prop :=
 br (decide (i < ((lN : Nat) : Int))) (
 0 ≤ (i : Int) ∧ i < ((lN : Nat) : Int) ∧ okP lA (
 ∃ t21 : Int, w3.cell? ⟨(pb lA), po lA + i.toNat * 3 + 1, none⟩ = some (.int .i64 t21) ∧
 br (t21 == prio) (
 0 ≤ (i : Int) ∧ i < ((lN : Nat) : Int) ∧ okP lA (
 ∃ t28 : Int, w3.cell? ⟨(pb lA), po lA + i.toNat * 3, none⟩ = some (.int .i64 t28) ∧ ∃ t281 : Int, w3.cell? ⟨(pb lA), po lA + i.toNat * 3 + 1, none⟩ = some (.int .i64 t281) ∧ ∃ t282 : Int, w3.cell? ⟨(pb lA), po lA + i.toNat * 3 + 2, none⟩ = some (.int .i64 t282) ∧ 
 newBlk w3 (.cells #[.int .i64 t28, .int .i64 t281, .int .i64 t282] 135 (0, 0)) fun b1 w4 =>
 ∃ t30A : Option Addr, ∃ t30N : Nat, ∃ t30C : Nat, ∃ w5 : World, (Builtin.append_ #[75, 75] 75 #[.slice outA1 outN1 outC1, .slice (some ⟨b1, 0, none⟩) 1 1]).run Try.prog w4 = .ok (.slice t30A t30N t30C) w5 ∧
 Nx1 t30A t30N t30C (IntKind.wrap .i64 (i + 1)) w5)) (
 Nx1 outA1 outN1 outC1 (IntKind.wrap .i64 (i + 1)) w3))) (
 Nx0 outA1 outN1 outC1 (IntKind.wrap .i64 (prio - 1)) w3)

def purlinref14_Order.L0 (lA : Option Addr) (lN : Nat) (R : Value → World → Prop) (dead : Nat → Value) (outA : Option Addr) (outN : Nat) (outC : Nat) (prio : Int) (w2 : World) (Nx0 : Option Addr → Nat → Nat → Int → World → Prop) : Prop :=
 br (decide (prio ≥ 0)) (
 ∃ I : Nat → Option Addr → Nat → Nat → Int → World → Prop, (∃ n, I n outA outN outC 0 w2) ∧ ∀ (n9 : Nat) (dead : Nat → Value) (w3 : World) (outA1 : Option Addr) (outN1 : Nat) (outC1 : Nat) (i : Int), I n9 outA1 outN1 outC1 i w3 →
 purlinref14_Order.L1 lA lN prio Nx0 outA1 outN1 outC1 i w3 (fun x0 x1 x2 x3 w9 => ∃ m, m < n9 ∧ I m x0 x1 x2 x3 w9)) (
 R (.slice outA outN outC) w2)

def purlinref14_Order.F (lA : Option Addr) (lN : Nat) (lC : Nat) (w : World) (R : Value → World → Prop) : Prop :=
 newBlk w (.cells #[] 135 (0, 0)) fun b w1 =>
 ∃ I : Nat → Option Addr → Nat → Nat → Int → World → Prop, (∃ n, I n (some ⟨b, 0, none⟩) 0 0 63 w1) ∧ ∀ (n9 : Nat) (dead : Nat → Value) (w2 : World) (outA : Option Addr) (outN : Nat) (outC : Nat) (prio : Int), I n9 outA outN outC prio w2 →
 purlinref14_Order.L0 lA lN R dead outA outN outC prio w2 (fun x0 x1 x2 x3 w9 => ∃ m, m < n9 ∧ I m x0 x1 x2 x3 w9)

theorem purlinref14_Order.vc (lA : Option Addr) (lN : Nat) (lC : Nat) (w : World) (R : Value → World → Prop) : fnVC Try.prog purlinref14_Order.A Try.f77 [.slice lA lN lC] w R = purlinref14_Order.F lA lN lC w R := by kernel_rfl
theorem purlinref14_Order.calls (lA : Option Addr) (lN : Nat) (lC : Nat) (w : World) (R : Value → World → Prop) (h : purlinref14_Order.F lA lN lC w R) : Calls Try.prog 77 #[.slice lA lN lC] w (Ret R) :=
  calls_of_vc mixed Try.func77 (Eq.mpr (purlinref14_Order.vc lA lN lC w R) h)

/-! ### purlin/purlinref14.List: function 45 -/
def purlinref14_List.A : Ann where
  sched := fun i => match i with
    | _ => none
  loop := fun i => match i with
    | 4 => some [(4, some (.one (.slice))), (5, some (.one (.int .i64))), (10, none), (11, none), (12, none), (13, none), (14, none), (15, none), (16, none), (17, none), (18, none), (19, none), (20, none), (21, none), (22, none), (23, none)]
    | _ => none

def purlinref14_List.L0 (R : Value → World → Prop) (t8A : Option Addr) (t8N : Nat) (outA : Option Addr) (outN : Nat) (outC : Nat) (i : Int) (w4 : World) (Nx0 : Option Addr → Nat → Nat → Int → World → Prop) : Prop :=
 br (decide (i < ((t8N : Nat) : Int))) (
 0 ≤ (i : Int) ∧ i < ((t8N : Nat) : Int) ∧ okP t8A (
 ∃ t21 : Int, w4.cell? ⟨(pb t8A), po t8A + i.toNat * 3, none⟩ = some (.int .i64 t21) ∧
 newBlk w4 (.cells #[.int .i64 t21] 3 (0, 0)) fun b2 w5 =>
 ∃ t23A : Option Addr, ∃ t23N : Nat, ∃ t23C : Nat, ∃ w6 : World, (Builtin.append_ #[29, 29] 29 #[.slice outA outN outC, .slice (some ⟨b2, 0, none⟩) 1 1]).run Try.prog w5 = .ok (.slice t23A t23N t23C) w6 ∧
 Nx0 t23A t23N t23C (IntKind.wrap .i64 (i + 1)) w6)) (
 R (.slice outA outN outC) w4)

def purlinref14_List.F (lA : Option Addr) (lN : Nat) (lC : Nat) (l : Int) (w : World) (R : Value → World → Prop) : Prop :=
 newBlk w (.cells #[.slice lA lN lC, .int .i64 l] 77 (0, 0)) fun b w1 =>
 ∃ t7A : Option Addr, ∃ t7N : Nat, ∃ t7C : Nat, w1.cell? ⟨b, 0, none⟩ = some (.slice t7A t7N t7C) ∧
 Calls Try.prog 77 #[.slice t7A t7N t7C] w1 (fun e w2 => ∃ t8A : Option Addr, ∃ t8N : Nat, ∃ t8C : Nat, e = .returned (.slice t8A t8N t8C) ∧
 newBlk w2 (.cells #[] 3 (0, 0)) fun b1 w3 =>
 ∃ I : Nat → Option Addr → Nat → Nat → Int → World → Prop, (∃ n, I n (some ⟨b1, 0, none⟩) 0 0 0 w3) ∧ ∀ (n9 : Nat) (dead : Nat → Value) (w4 : World) (outA : Option Addr) (outN : Nat) (outC : Nat) (i : Int), I n9 outA outN outC i w4 →
 purlinref14_List.L0 R t8A t8N outA outN outC i w4 (fun x0 x1 x2 x3 w9 => ∃ m, m < n9 ∧ I m x0 x1 x2 x3 w9))

theorem purlinref14_List.vc (lA : Option Addr) (lN : Nat) (lC : Nat) (l : Int) (w : World) (R : Value → World → Prop) : fnVC Try.prog purlinref14_List.A Try.f45 [.agg #[.slice lA lN lC, .int .i64 l]] w R = purlinref14_List.F lA lN lC l w R := by kernel_rfl
theorem purlinref14_List.calls (lA : Option Addr) (lN : Nat) (lC : Nat) (l : Int) (w : World) (R : Value → World → Prop) (h : purlinref14_List.F lA lN lC l w R) : Calls Try.prog 45 #[.agg #[.slice lA lN lC, .int .i64 l]] w (Ret R) :=
  calls_of_vc mixed Try.func45 (Eq.mpr (purlinref14_List.vc lA lN lC l w R) h)

/-! ### purlin/purlinref14.Put: function 74 -/
def purlinref14_Put.A : Ann where
  sched := fun i => match i with
    | _ => none
  loop := fun i => match i with
    | _ => none

def purlinref14_Put.K0 (id : Int) (prio : Int) (until1 : Int) (R : Value → World → Prop) (b : Nat) (b1 : Nat) (w2 : World) : Prop :=
 ∃ t38A : Option Addr, ∃ t38N : Nat, ∃ t38C : Nat, w2.cell? ⟨b, 0, none⟩ = some (.slice t38A t38N t38C) ∧
 Calls Try.prog 75 #[.slice t38A t38N t38C, .int .i64 id] w2 (fun e w9 => ∃ t40 : Int, e = .returned (.int .i64 t40) ∧
 br (decide (t40 ≥ 0)) (
 ∃ t42A : Option Addr, ∃ t42N : Nat, ∃ t42C : Nat, w9.cell? ⟨b, 0, none⟩ = some (.slice t42A t42N t42C) ∧ ∃ t42 : Int, w9.cell? ⟨b, 1, none⟩ = some (.int .i64 t42) ∧ 
 storeC w9 b1 0 [.slice t42A t42N t42C, .int .i64 t42] fun w10 =>
 ∃ rA6 : Option Addr, ∃ rN6 : Nat, ∃ rC6 : Nat, w10.cell? ⟨b1, 0, none⟩ = some (.slice rA6 rN6 rC6) ∧ ∃ r6 : Int, w10.cell? ⟨b1, 1, none⟩ = some (.int .i64 r6) ∧ 
 R (.tuple #[.agg #[.slice rA6 rN6 rC6, .int .i64 r6], .int .i64 141]) w10) (
 newBlk w9 (.cells #[] 135 (0, 0)) fun b2 w11 =>
 ∃ t45A : Option Addr, ∃ t45N : Nat, ∃ t45C : Nat, w11.cell? ⟨b, 0, none⟩ = some (.slice t45A t45N t45C) ∧
 ∃ t46A : Option Addr, ∃ t46N : Nat, ∃ t46C : Nat, ∃ w12 : World, (Builtin.append_ #[75, 75] 75 #[.slice (some ⟨b2, 0, none⟩) 0 0, .slice t45A t45N t45C]).run Try.prog w11 = .ok (.slice t46A t46N t46C) w12 ∧
 newBlk w12 (.cells #[.int .i64 id, .int .i64 prio, .int .i64 until1] 135 (0, 0)) fun b3 w13 =>
 ∃ t52A : Option Addr, ∃ t52N : Nat, ∃ t52C : Nat, ∃ w14 : World, (Builtin.append_ #[75, 75] 75 #[.slice t46A t46N t46C, .slice (some ⟨b3, 0, none⟩) 1 1]).run Try.prog w13 = .ok (.slice t52A t52N t52C) w14 ∧
 storeC w14 b 0 [.slice t52A t52N t52C] fun w15 =>
 ∃ t54A : Option Addr, ∃ t54N : Nat, ∃ t54C : Nat, w15.cell? ⟨b, 0, none⟩ = some (.slice t54A t54N t54C) ∧ ∃ t54 : Int, w15.cell? ⟨b, 1, none⟩ = some (.int .i64 t54) ∧ 
 storeC w15 b1 0 [.slice t54A t54N t54C, .int .i64 t54] fun w16 =>
 ∃ rA7 : Option Addr, ∃ rN7 : Nat, ∃ rC7 : Nat, w16.cell? ⟨b1, 0, none⟩ = some (.slice rA7 rN7 rC7) ∧ ∃ r7 : Int, w16.cell? ⟨b1, 1, none⟩ = some (.int .i64 r7) ∧ 
 R (.tuple #[.agg #[.slice rA7 rN7 rC7, .int .i64 r7], .int .i64 0]) w16))

def purlinref14_Put.F (lA : Option Addr) (lN : Nat) (lC : Nat) (l : Int) (id : Int) (prio : Int) (until1 : Int) (w : World) (R : Value → World → Prop) : Prop :=
 newBlk w (.cells #[.slice lA lN lC, .int .i64 l] 77 (0, 0)) fun b w1 =>
 newBlk w1 (.cells #[.slice none 0 0, .int .i64 0] 77 (0, 0)) fun b1 w2 =>
 br (decide (id < 0)) (
 ∃ t16A : Option Addr, ∃ t16N : Nat, ∃ t16C : Nat, w2.cell? ⟨b, 0, none⟩ = some (.slice t16A t16N t16C) ∧ ∃ t16 : Int, w2.cell? ⟨b, 1, none⟩ = some (.int .i64 t16) ∧ 
 storeC w2 b1 0 [.slice t16A t16N t16C, .int .i64 t16] fun w3 =>
 ∃ rA : Option Addr, ∃ rN : Nat, ∃ rC : Nat, w3.cell? ⟨b1, 0, none⟩ = some (.slice rA rN rC) ∧ ∃ r : Int, w3.cell? ⟨b1, 1, none⟩ = some (.int .i64 r) ∧ 
 R (.tuple #[.agg #[.slice rA rN rC, .int .i64 r], .int .i64 140]) w3) (
 br (decide (id > 65535)) (
 ∃ t16A1 : Option Addr, ∃ t16N1 : Nat, ∃ t16C1 : Nat, w2.cell? ⟨b, 0, none⟩ = some (.slice t16A1 t16N1 t16C1) ∧ ∃ t161 : Int, w2.cell? ⟨b, 1, none⟩ = some (.int .i64 t161) ∧ 
 storeC w2 b1 0 [.slice t16A1 t16N1 t16C1, .int .i64 t161] fun w4 =>
 ∃ rA1 : Option Addr, ∃ rN1 : Nat, ∃ rC1 : Nat, w4.cell? ⟨b1, 0, none⟩ = some (.slice rA1 rN1 rC1) ∧ ∃ r1 : Int, w4.cell? ⟨b1, 1, none⟩ = some (.int .i64 r1) ∧ 
 R (.tuple #[.agg #[.slice rA1 rN1 rC1, .int .i64 r1], .int .i64 140]) w4) (
 br (decide (prio < 0)) (
 ∃ t23A : Option Addr, ∃ t23N : Nat, ∃ t23C : Nat, w2.cell? ⟨b, 0, none⟩ = some (.slice t23A t23N t23C) ∧ ∃ t23 : Int, w2.cell? ⟨b, 1, none⟩ = some (.int .i64 t23) ∧ 
 storeC w2 b1 0 [.slice t23A t23N t23C, .int .i64 t23] fun w5 =>
 ∃ rA2 : Option Addr, ∃ rN2 : Nat, ∃ rC2 : Nat, w5.cell? ⟨b1, 0, none⟩ = some (.slice rA2 rN2 rC2) ∧ ∃ r2 : Int, w5.cell? ⟨b1, 1, none⟩ = some (.int .i64 r2) ∧ 
 R (.tuple #[.agg #[.slice rA2 rN2 rC2, .int .i64 r2], .int .i64 143]) w5) (
 br (decide (prio > 63)) (
 ∃ t23A1 : Option Addr, ∃ t23N1 : Nat, ∃ t23C1 : Nat, w2.cell? ⟨b, 0, none⟩ = some (.slice t23A1 t23N1 t23C1) ∧ ∃ t231 : Int, w2.cell? ⟨b, 1, none⟩ = some (.int .i64 t231) ∧ 
 storeC w2 b1 0 [.slice t23A1 t23N1 t23C1, .int .i64 t231] fun w6 =>
 ∃ rA3 : Option Addr, ∃ rN3 : Nat, ∃ rC3 : Nat, w6.cell? ⟨b1, 0, none⟩ = some (.slice rA3 rN3 rC3) ∧ ∃ r3 : Int, w6.cell? ⟨b1, 1, none⟩ = some (.int .i64 r3) ∧ 
 R (.tuple #[.agg #[.slice rA3 rN3 rC3, .int .i64 r3], .int .i64 143]) w6) (
 br (until1 != (-1)) (
 ∃ t29 : Int, w2.cell? ⟨b, 1, none⟩ = some (.int .i64 t29) ∧
 br (decide (until1 ≤ t29)) (
 ∃ t36A : Option Addr, ∃ t36N : Nat, ∃ t36C : Nat, w2.cell? ⟨b, 0, none⟩ = some (.slice t36A t36N t36C) ∧ ∃ t36 : Int, w2.cell? ⟨b, 1, none⟩ = some (.int .i64 t36) ∧ 
 storeC w2 b1 0 [.slice t36A t36N t36C, .int .i64 t36] fun w7 =>
 ∃ rA4 : Option Addr, ∃ rN4 : Nat, ∃ rC4 : Nat, w7.cell? ⟨b1, 0, none⟩ = some (.slice rA4 rN4 rC4) ∧ ∃ r4 : Int, w7.cell? ⟨b1, 1, none⟩ = some (.int .i64 r4) ∧ 
 R (.tuple #[.agg #[.slice rA4 rN4 rC4, .int .i64 r4], .int .i64 144]) w7) (
 br (decide (until1 > 1099511627776)) (
 ∃ t36A1 : Option Addr, ∃ t36N1 : Nat, ∃ t36C1 : Nat, w2.cell? ⟨b, 0, none⟩ = some (.slice t36A1 t36N1 t36C1) ∧ ∃ t361 : Int, w2.cell? ⟨b, 1, none⟩ = some (.int .i64 t361) ∧ 
 storeC w2 b1 0 [.slice t36A1 t36N1 t36C1, .int .i64 t361] fun w8 =>
 ∃ rA5 : Option Addr, ∃ rN5 : Nat, ∃ rC5 : Nat, w8.cell? ⟨b1, 0, none⟩ = some (.slice rA5 rN5 rC5) ∧ ∃ r5 : Int, w8.cell? ⟨b1, 1, none⟩ = some (.int .i64 r5) ∧ 
 R (.tuple #[.agg #[.slice rA5 rN5 rC5, .int .i64 r5], .int .i64 144]) w8) (
 purlinref14_Put.K0 id prio until1 R b b1 w2))) (
 purlinref14_Put.K0 id prio until1 R b b1 w2)))))

theorem purlinref14_Put.vc (lA : Option Addr) (lN : Nat) (lC : Nat) (l : Int) (id : Int) (prio : Int) (until1 : Int) (w : World) (R : Value → World → Prop) : fnVC Try.prog purlinref14_Put.A Try.f74 [.agg #[.slice lA lN lC, .int .i64 l], .int .i64 id, .int .i64 prio, .int .i64 until1] w R = purlinref14_Put.F lA lN lC l id prio until1 w R := by kernel_rfl
theorem purlinref14_Put.calls (lA : Option Addr) (lN : Nat) (lC : Nat) (l : Int) (id : Int) (prio : Int) (until1 : Int) (w : World) (R : Value → World → Prop) (h : purlinref14_Put.F lA lN lC l id prio until1 w R) : Calls Try.prog 74 #[.agg #[.slice lA lN lC, .int .i64 l], .int .i64 id, .int .i64 prio, .int .i64 until1] w (Ret R) :=
  calls_of_vc mixed Try.func74 (Eq.mpr (purlinref14_Put.vc lA lN lC l id prio until1 w R) h)

/-! ### purlin/purlinref14.Take: function 78 -/
def purlinref14_Take.A : Ann where
  sched := fun i => match i with
    | 4 => some ((some 1280), .still 2 false 115 <| .still 3 false 119 <| .still 4 false 15 <| .still 5 false 31 <| .still 6 false 63 <| .still 0 true 252 <| .still 1 true 253 <| .eff 7 <| .eff 8 <| .still 9 false 511 <| .eff 10 <| .done)
    | 5 => some ((some 0), .still 0 false 14 <| .still 1 true 17 <| .still 2 true 19 <| .still 3 true 23 <| .eff 4 <| .still 5 false 31 <| .still 6 false 63 <| .done)
    | _ => none
  loop := fun i => match i with
    | _ => none

def purlinref14_Take.F (lA : Option Addr) (lN : Nat) (lC : Nat) (l : Int) (w : World) (R : Value → World → Prop) : Prop :=
 newBlk w (.cells #[.slice lA lN lC, .int .i64 l] 77 (0, 0)) fun b w1 =>
 newBlk w1 (.cells #[.slice none 0 0, .int .i64 0] 77 (0, 0)) fun b1 w2 =>
 ∃ t6A : Option Addr, ∃ t6N : Nat, ∃ t6C : Nat, w2.cell? ⟨b, 0, none⟩ = some (.slice t6A t6N t6C) ∧ ∃ t6 : Int, w2.cell? ⟨b, 1, none⟩ = some (.int .i64 t6) ∧ 
 Calls Try.prog 45 #[.agg #[.slice t6A t6N t6C, .int .i64 t6]] w2 (fun e w3 => ∃ t7A : Option Addr, ∃ t7N : Nat, ∃ t7C : Nat, e = .returned (.slice t7A t7N t7C) ∧
 br (((t7N : Nat) : Int) == 0) (
 ∃ t11A : Option Addr, ∃ t11N : Nat, ∃ t11C : Nat, w3.cell? ⟨b, 0, none⟩ = some (.slice t11A t11N t11C) ∧ ∃ t11 : Int, w3.cell? ⟨b, 1, none⟩ = some (.int .i64 t11) ∧ 
 storeC w3 b1 0 [.slice t11A t11N t11C, .int .i64 t11] fun w4 =>
 ∃ rA : Option Addr, ∃ rN : Nat, ∃ rC : Nat, w4.cell? ⟨b1, 0, none⟩ = some (.slice rA rN rC) ∧ ∃ r : Int, w4.cell? ⟨b1, 1, none⟩ = some (.int .i64 r) ∧ 
 R (.tuple #[.agg #[.slice rA rN rC, .int .i64 r], .int .i64 0, .bool false]) w4) (
 ∃ S : World → Prop, S w3.drew ∧ drawC w3 fun w5 =>
 ∃ t15A : Option Addr, ∃ t15N : Nat, ∃ t15C : Nat, w5.cell? ⟨b, 0, none⟩ = some (.slice t15A t15N t15C) ∧
 0 ≤ (0 : Int) ∧ 0 < ((t7N : Nat) : Int) ∧ okP t7A (
 ∃ t18 : Int, w5.cell? ⟨(pb t7A), po t7A, none⟩ = some (.int .i64 t18) ∧
 ∃ t13A : Option Addr, ∃ t13N : Nat, ∃ t13C : Nat, (∀ w9 : World, S w9 → w9.cell? ⟨b, 0, none⟩ = some (.slice t13A t13N t13C)) ∧
 Calls Try.prog 75 #[.slice t15A t15N t15C, .int .i64 t18] w5 (fun e w6 => ∃ t19 : Int, e = .returned (.int .i64 t19) ∧
 S w6 ∧ Calls Try.prog 76 #[.slice t13A t13N t13C, .int .i64 t19] w6 (fun e w7 => ∃ t20A : Option Addr, ∃ t20N : Nat, ∃ t20C : Nat, e = .returned (.slice t20A t20N t20C) ∧
 storeC w7 b 0 [.slice t20A t20N t20C] fun w8 =>
 ∃ S : World → Prop, S w8.drew ∧ drawC w8 fun w9 =>
 ∃ t22A : Option Addr, ∃ t22N : Nat, ∃ t22C : Nat, w9.cell? ⟨b, 0, none⟩ = some (.slice t22A t22N t22C) ∧ ∃ t22 : Int, w9.cell? ⟨b, 1, none⟩ = some (.int .i64 t22) ∧ 
 0 ≤ (0 : Int) ∧ 0 < ((t7N : Nat) : Int) ∧ okP t7A (
 ∃ t25 : Int, (∀ w9 : World, S w9 → w9.cell? ⟨(pb t7A), po t7A, none⟩ = some (.int .i64 t25)) ∧
 storeC w9 b1 0 [.slice t22A t22N t22C, .int .i64 t22] fun w10 =>
 S w10 ∧ ∃ rA1 : Option Addr, ∃ rN1 : Nat, ∃ rC1 : Nat, w10.cell? ⟨b1, 0, none⟩ = some (.slice rA1 rN1 rC1) ∧ ∃ r1 : Int, w10.cell? ⟨b1, 1, none⟩ = some (.int .i64 r1) ∧ 
 R (.tuple #[.agg #[.slice rA1 rN1 rC1, .int .i64 r1], .int .i64 t25, .bool true]) w10))))))

theorem purlinref14_Take.vc (lA : Option Addr) (lN : Nat) (lC : Nat) (l : Int) (w : World) (R : Value → World → Prop) : fnVC Try.prog purlinref14_Take.A Try.f78 [.agg #[.slice lA lN lC, .int .i64 l]] w R = purlinref14_Take.F lA lN lC l w R := by kernel_rfl
theorem purlinref14_Take.calls (lA : Option Addr) (lN : Nat) (lC : Nat) (l : Int) (w : World) (R : Value → World → Prop) (h : purlinref14_Take.F lA lN lC l w R) : Calls Try.prog 78 #[.agg #[.slice lA lN lC, .int .i64 l]] w (Ret R) :=
  calls_of_vc mixed Try.func78 (Eq.mpr (purlinref14_Take.vc lA lN lC l w R) h)

/-! ### purlin/purlinref14.Drop: function 42 -/
def purlinref14_Drop.A : Ann where
  sched := fun i => match i with
    | _ => none
  loop := fun i => match i with
    | _ => none

def purlinref14_Drop.F (lA : Option Addr) (lN : Nat) (lC : Nat) (l : Int) (id : Int) (w : World) (R : Value → World → Prop) : Prop :=
 newBlk w (.cells #[.slice lA lN lC, .int .i64 l] 77 (0, 0)) fun b w1 =>
 newBlk w1 (.cells #[.slice none 0 0, .int .i64 0] 77 (0, 0)) fun b1 w2 =>
 ∃ t8A : Option Addr, ∃ t8N : Nat, ∃ t8C : Nat, w2.cell? ⟨b, 0, none⟩ = some (.slice t8A t8N t8C) ∧
 Calls Try.prog 75 #[.slice t8A t8N t8C, .int .i64 id] w2 (fun e w3 => ∃ t10 : Int, e = .returned (.int .i64 t10) ∧
 br (decide (t10 < 0)) (
 ∃ t13A : Option Addr, ∃ t13N : Nat, ∃ t13C : Nat, w3.cell? ⟨b, 0, none⟩ = some (.slice t13A t13N t13C) ∧ ∃ t13 : Int, w3.cell? ⟨b, 1, none⟩ = some (.int .i64 t13) ∧ 
 storeC w3 b1 0 [.slice t13A t13N t13C, .int .i64 t13] fun w4 =>
 ∃ rA : Option Addr, ∃ rN : Nat, ∃ rC : Nat, w4.cell? ⟨b1, 0, none⟩ = some (.slice rA rN rC) ∧ ∃ r : Int, w4.cell? ⟨b1, 1, none⟩ = some (.int .i64 r) ∧ 
 R (.tuple #[.agg #[.slice rA rN rC, .int .i64 r], .int .i64 142]) w4) (
 ∃ t15A : Option Addr, ∃ t15N : Nat, ∃ t15C : Nat, w3.cell? ⟨b, 0, none⟩ = some (.slice t15A t15N t15C) ∧
 Calls Try.prog 76 #[.slice t15A t15N t15C, .int .i64 t10] w3 (fun e w5 => ∃ t17A : Option Addr, ∃ t17N : Nat, ∃ t17C : Nat, e = .returned (.slice t17A t17N t17C) ∧
 storeC w5 b 0 [.slice t17A t17N t17C] fun w6 =>
 ∃ t19A : Option Addr, ∃ t19N : Nat, ∃ t19C : Nat, w6.cell? ⟨b, 0, none⟩ = some (.slice t19A t19N t19C) ∧ ∃ t19 : Int, w6.cell? ⟨b, 1, none⟩ = some (.int .i64 t19) ∧ 
 storeC w6 b1 0 [.slice t19A t19N t19C, .int .i64 t19] fun w7 =>
 ∃ rA1 : Option Addr, ∃ rN1 : Nat, ∃ rC1 : Nat, w7.cell? ⟨b1, 0, none⟩ = some (.slice rA1 rN1 rC1) ∧ ∃ r1 : Int, w7.cell? ⟨b1, 1, none⟩ = some (.int .i64 r1) ∧ 
 R (.tuple #[.agg #[.slice rA1 rN1 rC1, .int .i64 r1], .int .i64 0]) w7)))

theorem purlinref14_Drop.vc (lA : Option Addr) (lN : Nat) (lC : Nat) (l : Int) (id : Int) (w : World) (R : Value → World → Prop) : fnVC Try.prog purlinref14_Drop.A Try.f42 [.agg #[.slice lA lN lC, .int .i64 l], .int .i64 id] w R = purlinref14_Drop.F lA lN lC l id w R := by kernel_rfl
theorem purlinref14_Drop.calls (lA : Option Addr) (lN : Nat) (lC : Nat) (l : Int) (id : Int) (w : World) (R : Value → World → Prop) (h : purlinref14_Drop.F lA lN lC l id w R) : Calls Try.prog 42 #[.agg #[.slice lA lN lC, .int .i64 l], .int .i64 id] w (Ret R) :=
  calls_of_vc mixed Try.func42 (Eq.mpr (purlinref14_Drop.vc lA lN lC l id w R) h)

/-! ### purlin/purlinref14.Expire: function 43 -/
def purlinref14_Expire.A : Ann where
  sched := fun i => match i with
    | 10 => some (none, .still 0 false 2 <| .still 1 false 1 <| .still 2 false 3 <| .still 3 false 7 <| .still 4 false 15 <| .still 5 false 31 <| .still 6 false 63 <| .still 7 false 4479 <| .still 8 false 4351 <| .still 9 false 4607 <| .still 10 false 5119 <| .still 11 false 6143 <| .still 12 false 4095 <| .still 13 false 8191 <| .still 14 false 16383 <| .still 15 false 32767 <| .still 16 false 65535 <| .still 17 false 131071 <| .still 18 false 262143 <| .still 19 false 521666559 <| .still 20 false 521142271 <| .still 21 false 522190847 <| .still 22 false 524287999 <| .still 23 false 528482303 <| .still 24 false 50331647 <| .still 25 false 33554431 <| .still 26 false 67108863 <| .still 27 false 134217727 <| .still 28 false 268435455 <| .still 29 false 536870911 <| .still 30 false 1073741823 <| .still 31 false 2147483647 <| .done)
    | 15 => some ((some 5120), .still 2 false 499 <| .still 3 false 503 <| .still 4 false 47 <| .still 5 false 31 <| .still 6 false 63 <| .still 7 false 127 <| .still 8 false 255 <| .still 0 true 1020 <| .still 1 true 1021 <| .eff 9 <| .eff 10 <| .still 11 false 2047 <| .eff 12 <| .done)
    | _ => none
  loop := fun i => match i with
    | 5 => some [(5, none), (6, none), (7, some (.one (.slice))), (8, none), (9, none), (10, none), (23, none), (24, none), (25, none), (26, none), (27, none), (28, none), (29, none), (30, none), (31, none), (32, none), (33, none), (34, none), (35, none), (36, none), (37, none), (38, none), (39, none), (40, none), (41, none), (42, none), (43, none), (44, none), (45, none), (46, none), (47, none), (48, none), (49, none), (50, none), (51, none), (52, none), (53, none), (54, none), (55, none), (56, none), (57, none), (58, none), (59, none), (60, none), (61, none), (62, none), (63, none), (64, none), (65, none), (66, none), (67, none), (68, none), (69, none), (70, none), (71, none), (72, none), (73, none), (74, none), (75, none), (76, none), (77, none), (78, none), (79, none), (80, none), (81, none), (82, none), (83, none), (84, none), (85, none), (86, none), (87, none), (88, none)]
    | 8 => some [(9, some (.one (.int .i64))), (10, some (.one (.int .i64))), (26, none), (27, none), (28, none), (29, none), (30, none), (31, none), (32, none), (33, none), (34, none), (35, none), (36, none), (37, none), (38, none), (39, none), (40, none), (41, none), (42, none), (43, none), (44, none), (45, none), (46, none), (47, none), (48, none), (49, none), (50, none), (51, none), (52, none), (53, none), (54, none), (55, none), (56, none), (57, none), (58, none), (59, none), (60, none), (61, none), (62, none), (63, none), (64, none)]
    | _ => none

def purlinref14_Expire.L1 (now : Int) (R : Value → World → Prop) (b : Nat) (b1 : Nat) (outA : Option Addr) (outN : Nat) (outC : Nat) (Nx0 : Option Addr → Nat → Nat → World → Prop) (t25A : Option Addr) (t25N : Nat) (at1 : Int) (i : Int) (w9 : World) (Nx1 : Int → Int → World → Prop) : Prop :=
 br (decide (i < ((t25N : Nat) : Int))) (
 drawC w9 fun w10 =>
 0 ≤ (i : Int) ∧ i < ((t25N : Nat) : Int) ∧ okP t25A (
 ∃ t36 : Int, w10.cell? ⟨(pb t25A), po t25A + i.toNat * 3 + 2, none⟩ = some (.int .i64 t36) ∧
 br (t36 != (-1)) (
 0 ≤ (i : Int) ∧ i < ((t25N : Nat) : Int) ∧ okP t25A (
 ∃ t43 : Int, w10.cell? ⟨(pb t25A), po t25A + i.toNat * 3 + 2, none⟩ = some (.int .i64 t43) ∧
 br (decide (t43 ≤ now)) (
 br (decide (at1 < 0)) (
 Nx1 i (IntKind.wrap .i64 (i + 1)) w10) (
 0 ≤ (i : Int) ∧ i < ((t25N : Nat) : Int) ∧ okP t25A (
 ∃ t55 : Int, w10.cell? ⟨(pb t25A), po t25A + i.toNat * 3 + 2, none⟩ = some (.int .i64 t55) ∧
 0 ≤ (at1 : Int) ∧ at1 < ((t25N : Nat) : Int) ∧ okP t25A (
 ∃ t60 : Int, w10.cell? ⟨(pb t25A), po t25A + at1.toNat * 3 + 2, none⟩ = some (.int .i64 t60) ∧
 br (decide (t55 < t60)) (
 Nx1 i (IntKind.wrap .i64 (i + 1)) w10) (
 Nx1 at1 (IntKind.wrap .i64 (i + 1)) w10))))) (
 Nx1 at1 (IntKind.wrap .i64 (i + 1)) w10))) (
 Nx1 at1 (IntKind.wrap .i64 (i + 1)) w10))) (
 br (decide (at1 < 0)) (
 ∃ t67A : Option Addr, ∃ t67N : Nat, ∃ t67C : Nat, w9.cell? ⟨b, 0, none⟩ = some (.slice t67A t67N t67C) ∧ ∃ t67 : Int, w9.cell? ⟨b, 1, none⟩ = some (.int .i64 t67) ∧ 
 storeC w9 b1 0 [.slice t67A t67N t67C, .int .i64 t67] fun w11 =>
 ∃ rA2 : Option Addr, ∃ rN2 : Nat, ∃ rC2 : Nat, w11.cell? ⟨b1, 0, none⟩ = some (.slice rA2 rN2 rC2) ∧ ∃ r2 : Int, w11.cell? ⟨b1, 1, none⟩ = some (.int .i64 r2) ∧ 
 R (.tuple #[.agg #[.slice rA2 rN2 rC2, .int .i64 r2], .slice outA outN outC, .int .i64 0]) w11) (
 0 ≤ (at1 : Int) ∧ at1 < ((t25N : Nat) : Int) ∧ okP t25A (
 ∃ t74 : Int, w9.cell? ⟨(pb t25A), po t25A + at1.toNat * 3, none⟩ = some (.int .i64 t74) ∧
 newBlk w9 (.cells #[.int .i64 t74] 3 (0, 0)) fun b3 w12 =>
 ∃ t76A : Option Addr, ∃ t76N : Nat, ∃ t76C : Nat, ∃ w13 : World, (Builtin.append_ #[29, 29] 29 #[.slice outA outN outC, .slice (some ⟨b3, 0, none⟩) 1 1]).run Try.prog w12 = .ok (.slice t76A t76N t76C) w13 ∧
 ∃ S : World → Prop, S w13.drew ∧ drawC w13 fun w14 =>
 ∃ t80A : Option Addr, ∃ t80N : Nat, ∃ t80C : Nat, w14.cell? ⟨b, 0, none⟩ = some (.slice t80A t80N t80C) ∧
 0 ≤ (at1 : Int) ∧ at1 < ((t25N : Nat) : Int) ∧ okP t25A (
 ∃ t85 : Int, w14.cell? ⟨(pb t25A), po t25A + at1.toNat * 3, none⟩ = some (.int .i64 t85) ∧
 ∃ t78A : Option Addr, ∃ t78N : Nat, ∃ t78C : Nat, (∀ w9 : World, S w9 → w9.cell? ⟨b, 0, none⟩ = some (.slice t78A t78N t78C)) ∧
 Calls Try.prog 75 #[.slice t80A t80N t80C, .int .i64 t85] w14 (fun e w15 => ∃ t86 : Int, e = .returned (.int .i64 t86) ∧
 S w15 ∧ Calls Try.prog 76 #[.slice t78A t78N t78C, .int .i64 t86] w15 (fun e w16 => ∃ t87A : Option Addr, ∃ t87N : Nat, ∃ t87C : Nat, e = .returned (.slice t87A t87N t87C) ∧
 storeC w16 b 0 [.slice t87A t87N t87C] fun w17 =>
 Nx0 t76A t76N t76C w17))))))

def purlinref14_Expire.L0 (now : Int) (R : Value → World → Prop) (b : Nat) (b1 : Nat) (dead : Nat → Value) (outA : Option Addr) (outN : Nat) (outC : Nat) (w7 : World) (Nx0 : Option Addr → Nat → Nat → World → Prop) : Prop :=
 ∃ t24A : Option Addr, ∃ t24N : Nat, ∃ t24C : Nat, w7.cell? ⟨b, 0, none⟩ = some (.slice t24A t24N t24C) ∧
 Calls Try.prog 77 #[.slice t24A t24N t24C] w7 (fun e w8 => ∃ t25A : Option Addr, ∃ t25N : Nat, ∃ t25C : Nat, e = .returned (.slice t25A t25N t25C) ∧
 ∃ I : Nat → Int → Int → World → Prop, (∃ n, I n (-1) 0 w8) ∧ ∀ (n9 : Nat) (dead : Nat → Value) (w9 : World) (at1 : Int) (i : Int), I n9 at1 i w9 →
 purlinref14_Expire.L1 now R b b1 outA outN outC Nx0 t25A t25N at1 i w9 (fun x0 x1 w9 => ∃ m, m < n9 ∧ I m x0 x1 w9))

def purlinref14_Expire.F (lA : Option Addr) (lN : Nat) (lC : Nat) (l : Int) (now : Int) (w : World) (R : Value → World → Prop) : Prop :=
 newBlk w (.cells #[.slice lA lN lC, .int .i64 l] 77 (0, 0)) fun b w1 =>
 newBlk w1 (.cells #[.slice none 0 0, .int .i64 0] 77 (0, 0)) fun b1 w2 =>
 ∃ t13 : Int, w2.cell? ⟨b, 1, none⟩ = some (.int .i64 t13) ∧
 br (decide (now < t13)) (
 ∃ t19A : Option Addr, ∃ t19N : Nat, ∃ t19C : Nat, w2.cell? ⟨b, 0, none⟩ = some (.slice t19A t19N t19C) ∧ ∃ t19 : Int, w2.cell? ⟨b, 1, none⟩ = some (.int .i64 t19) ∧ 
 storeC w2 b1 0 [.slice t19A t19N t19C, .int .i64 t19] fun w3 =>
 ∃ rA : Option Addr, ∃ rN : Nat, ∃ rC : Nat, w3.cell? ⟨b1, 0, none⟩ = some (.slice rA rN rC) ∧ ∃ r : Int, w3.cell? ⟨b1, 1, none⟩ = some (.int .i64 r) ∧ 
 R (.tuple #[.agg #[.slice rA rN rC, .int .i64 r], .slice none 0 0, .int .i64 144]) w3) (
 br (decide (now > 1099511627776)) (
 ∃ t19A1 : Option Addr, ∃ t19N1 : Nat, ∃ t19C1 : Nat, w2.cell? ⟨b, 0, none⟩ = some (.slice t19A1 t19N1 t19C1) ∧ ∃ t191 : Int, w2.cell? ⟨b, 1, none⟩ = some (.int .i64 t191) ∧ 
 storeC w2 b1 0 [.slice t19A1 t19N1 t19C1, .int .i64 t191] fun w4 =>
 ∃ rA1 : Option Addr, ∃ rN1 : Nat, ∃ rC1 : Nat, w4.cell? ⟨b1, 0, none⟩ = some (.slice rA1 rN1 rC1) ∧ ∃ r1 : Int, w4.cell? ⟨b1, 1, none⟩ = some (.int .i64 r1) ∧ 
 R (.tuple #[.agg #[.slice rA1 rN1 rC1, .int .i64 r1], .slice none 0 0, .int .i64 144]) w4) (
 newBlk w2 (.cells #[] 3 (0, 0)) fun b2 w5 =>
 storeC w5 b 1 [.int .i64 now] fun w6 =>
 ∃ I : Nat → Option Addr → Nat → Nat → World → Prop, (∃ n, I n (some ⟨b2, 0, none⟩) 0 0 w6) ∧ ∀ (n9 : Nat) (dead : Nat → Value) (w7 : World) (outA : Option Addr) (outN : Nat) (outC : Nat), I n9 outA outN outC w7 →
 purlinref14_Expire.L0 now R b b1 dead outA outN outC w7 (fun x0 x1 x2 w9 => ∃ m, m < n9 ∧ I m x0 x1 x2 w9)))

theorem purlinref14_Expire.vc (lA : Option Addr) (lN : Nat) (lC : Nat) (l : Int) (now : Int) (w : World) (R : Value → World → Prop) : fnVC Try.prog purlinref14_Expire.A Try.f43 [.agg #[.slice lA lN lC, .int .i64 l], .int .i64 now] w R = purlinref14_Expire.F lA lN lC l now w R := by kernel_rfl
theorem purlinref14_Expire.calls (lA : Option Addr) (lN : Nat) (lC : Nat) (l : Int) (now : Int) (w : World) (R : Value → World → Prop) (h : purlinref14_Expire.F lA lN lC l now w R) : Calls Try.prog 43 #[.agg #[.slice lA lN lC, .int .i64 l], .int .i64 now] w (Ret R) :=
  calls_of_vc mixed Try.func43 (Eq.mpr (purlinref14_Expire.vc lA lN lC l now w R) h)

/-! ### purlin/purlinref01.Same: function 29 -/
def purlinref01_Same.A : Ann where
  sched := fun i => match i with
    | 6 => some (none, .still 0 false 242 <| .still 1 false 241 <| .still 2 false 243 <| .still 3 false 247 <| .still 4 false 47 <| .still 5 false 31 <| .still 6 false 63 <| .still 7 false 127 <| .still 8 false 255 <| .done)
    | _ => none
  loop := fun i => match i with
    | 4 => some [(4, none), (5, some (.one (.int .i64))), (11, none), (12, none), (13, none), (14, none), (15, none), (16, none), (17, none), (18, none), (19, none), (20, none), (21, none), (22, none), (23, none), (24, none), (25, none)]
    | _ => none

def purlinref01_Same.L0 (aA : Option Addr) (aN : Nat) (bA : Option Addr) (bN : Nat) (R : Value → World → Prop) (i : Int) (w1 : World) (Nx0 : Int → World → Prop) : Prop :=
 br (decide (i < ((aN : Nat) : Int))) (
 drawC w1 fun w2 =>
 0 ≤ (i : Int) ∧ i < ((aN : Nat) : Int) ∧ okP aA (
 ∃ t20 : Int, w2.cell? ⟨(pb aA), po aA + i.toNat * 1, none⟩ = some (.int .i64 t20) ∧
 0 ≤ (i : Int) ∧ i < ((bN : Nat) : Int) ∧ okP bA (
 ∃ t24 : Int, w2.cell? ⟨(pb bA), po bA + i.toNat * 1, none⟩ = some (.int .i64 t24) ∧
 br (t20 != t24) (
 R (.bool false) w2) (
 Nx0 (IntKind.wrap .i64 (i + 1)) w2)))) (
 R (.bool true) w1)

def purlinref01_Same.F (aA : Option Addr) (aN : Nat) (aC : Nat) (bA : Option Addr) (bN : Nat) (bC : Nat) (w : World) (R : Value → World → Prop) : Prop :=
 br (((aN : Nat) : Int) != ((bN : Nat) : Int)) (
 R (.bool false) w) (
 ∃ I : Nat → Int → World → Prop, (∃ n, I n 0 w) ∧ ∀ (n9 : Nat) (dead : Nat → Value) (w1 : World) (i : Int), I n9 i w1 →
 purlinref01_Same.L0 aA aN bA bN R i w1 (fun x0 w9 => ∃ m, m < n9 ∧ I m x0 w9))

theorem purlinref01_Same.vc (aA : Option Addr) (aN : Nat) (aC : Nat) (bA : Option Addr) (bN : Nat) (bC : Nat) (w : World) (R : Value → World → Prop) : fnVC Try.prog purlinref01_Same.A Try.f29 [.slice aA aN aC, .slice bA bN bC] w R = purlinref01_Same.F aA aN aC bA bN bC w R := by kernel_rfl
theorem purlinref01_Same.calls (aA : Option Addr) (aN : Nat) (aC : Nat) (bA : Option Addr) (bN : Nat) (bC : Nat) (w : World) (R : Value → World → Prop) (h : purlinref01_Same.F aA aN aC bA bN bC w R) : Calls Try.prog 29 #[.slice aA aN aC, .slice bA bN bC] w (Ret R) :=
  calls_of_vc mixed Try.func29 (Eq.mpr (purlinref01_Same.vc aA aN aC bA bN bC w R) h)

end Go.Proofs.Ytecacohkkdhphaa
