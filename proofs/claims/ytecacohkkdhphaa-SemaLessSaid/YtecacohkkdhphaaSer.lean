/- Printed by vcgen.py: of each function of this text its weakest precondition as a formula, and that it is one. Conditions: none. -/
import Derived.Test.YtecacohkkdhphaaVcCode
import Derived.Test.YtecacohkkdhphaaVcMem
import Derived.Test.YtecacohkkdhphaaChecked
namespace Go.Proofs.Ytecacohkkdhphaa
open Go.Vc
set_option linter.unusedVariables false
set_option maxRecDepth 100000

/-! ### purlin/purlinref15.New: function 46 -/
def purlinref15_New.A : Ann where
  sched := fun i => match i with
    | _ => none
  loop := fun i => match i with
    | _ => none

def purlinref15_New.K0 (R : Value → World → Prop) (b : Nat) (w3 : World) : Prop :=
 ∃ rA : Option Addr, ∃ rN : Nat, ∃ rC : Nat, w3.cell? ⟨b, 0, none⟩ = some (.slice rA rN rC) ∧ ∃ r : Int, w3.cell? ⟨b, 1, none⟩ = some (.int .i64 r) ∧ ∃ r1 : Int, w3.cell? ⟨b, 2, none⟩ = some (.int .i64 r1) ∧ ∃ r2 : Int, w3.cell? ⟨b, 3, none⟩ = some (.int .i64 r2) ∧ 
 R (.tuple #[.agg #[.slice rA rN rC, .int .i64 r, .int .i64 r1, .int .i64 r2], .int .i64 150]) w3

def purlinref15_New.F (init : Int) (most : Int) (w : World) (R : Value → World → Prop) : Prop :=
 newBlk w (.cells #[.slice none 0 0, .int .i64 0, .int .i64 0, .int .i64 0] 97 (0, 0)) fun b w1 =>
 br (decide (most < 1)) (
 storeC w1 b 0 [.slice none 0 0, .int .i64 0, .int .i64 0, .int .i64 0] fun w2 =>
 purlinref15_New.K0 R b w2) (
 br (decide (most > 255)) (
 storeC w1 b 0 [.slice none 0 0, .int .i64 0, .int .i64 0, .int .i64 0] fun w2 =>
 purlinref15_New.K0 R b w2) (
 br (decide (init < 0)) (
 storeC w1 b 0 [.slice none 0 0, .int .i64 0, .int .i64 0, .int .i64 0] fun w2 =>
 purlinref15_New.K0 R b w2) (
 br (decide (init > most)) (
 storeC w1 b 0 [.slice none 0 0, .int .i64 0, .int .i64 0, .int .i64 0] fun w4 =>
 purlinref15_New.K0 R b w4) (
 storeC w1 b 0 [.slice none 0 0, .int .i64 0, .int .i64 init, .int .i64 most] fun w5 =>
 ∃ rA1 : Option Addr, ∃ rN1 : Nat, ∃ rC1 : Nat, w5.cell? ⟨b, 0, none⟩ = some (.slice rA1 rN1 rC1) ∧ ∃ r3 : Int, w5.cell? ⟨b, 1, none⟩ = some (.int .i64 r3) ∧ ∃ r4 : Int, w5.cell? ⟨b, 2, none⟩ = some (.int .i64 r4) ∧ ∃ r5 : Int, w5.cell? ⟨b, 3, none⟩ = some (.int .i64 r5) ∧ 
 R (.tuple #[.agg #[.slice rA1 rN1 rC1, .int .i64 r3, .int .i64 r4, .int .i64 r5], .int .i64 0]) w5))))

theorem purlinref15_New.vc (init : Int) (most : Int) (w : World) (R : Value → World → Prop) : fnVC Try.prog purlinref15_New.A Try.f46 [.int .i64 init, .int .i64 most] w R = purlinref15_New.F init most w R := by kernel_rfl
theorem purlinref15_New.calls (init : Int) (most : Int) (w : World) (R : Value → World → Prop) (h : purlinref15_New.F init most w R) : Calls Try.prog 46 #[.int .i64 init, .int .i64 most] w (Ret R) :=
  calls_of_vc mixed Try.func46 (Eq.mpr (purlinref15_New.vc init most w R) h)

/-! ### purlin/purlinref15.Wait: function 47 -/
def purlinref15_Wait.A : Ann where
  sched := fun i => match i with
    | _ => none
  loop := fun i => match i with
    | _ => none

def purlinref15_Wait.F (sA : Option Addr) (sN : Nat) (sC : Nat) (s : Int) (s1 : Int) (s2 : Int) (id : Int) (prio : Int) (until1 : Int) (w : World) (R : Value → World → Prop) : Prop :=
 newBlk w (.cells #[.slice sA sN sC, .int .i64 s, .int .i64 s1, .int .i64 s2] 97 (0, 0)) fun b w1 =>
 newBlk w1 (.cells #[.slice none 0 0, .int .i64 0, .int .i64 0, .int .i64 0] 97 (0, 0)) fun b1 w2 =>
 ∃ t17A : Option Addr, ∃ t17N : Nat, ∃ t17C : Nat, w2.cell? ⟨b, 0, none⟩ = some (.slice t17A t17N t17C) ∧ ∃ t17 : Int, w2.cell? ⟨b, 1, none⟩ = some (.int .i64 t17) ∧ 
 Calls Try.prog 74 #[.agg #[.slice t17A t17N t17C, .int .i64 t17], .int .i64 id, .int .i64 prio, .int .i64 (-1)] w2 (fun e w3 => ∃ t20A : Option Addr, ∃ t20N : Nat, ∃ t20C : Nat, ∃ t20 : Int, ∃ t201 : Int, e = .returned (.tuple #[.agg #[.slice t20A t20N t20C, .int .i64 t20], .int .i64 t201]) ∧
 newBlk w3 (.cells #[.slice none 0 0, .int .i64 0] 77 (0, 0)) fun b2 w4 =>
 storeC w4 b2 0 [.slice t20A t20N t20C, .int .i64 t20] fun w5 =>
 br (t201 != 0) (
 ∃ t25A : Option Addr, ∃ t25N : Nat, ∃ t25C : Nat, w5.cell? ⟨b, 0, none⟩ = some (.slice t25A t25N t25C) ∧ ∃ t25 : Int, w5.cell? ⟨b, 1, none⟩ = some (.int .i64 t25) ∧ ∃ t251 : Int, w5.cell? ⟨b, 2, none⟩ = some (.int .i64 t251) ∧ ∃ t252 : Int, w5.cell? ⟨b, 3, none⟩ = some (.int .i64 t252) ∧ 
 storeC w5 b1 0 [.slice t25A t25N t25C, .int .i64 t25, .int .i64 t251, .int .i64 t252] fun w6 =>
 ∃ rA : Option Addr, ∃ rN : Nat, ∃ rC : Nat, w6.cell? ⟨b1, 0, none⟩ = some (.slice rA rN rC) ∧ ∃ r : Int, w6.cell? ⟨b1, 1, none⟩ = some (.int .i64 r) ∧ ∃ r1 : Int, w6.cell? ⟨b1, 2, none⟩ = some (.int .i64 r1) ∧ ∃ r2 : Int, w6.cell? ⟨b1, 3, none⟩ = some (.int .i64 r2) ∧ 
 R (.tuple #[.agg #[.slice rA rN rC, .int .i64 r, .int .i64 r1, .int .i64 r2], .bool false, .int .i64 t201]) w6) (
 ∃ t28 : Int, w5.cell? ⟨b, 2, none⟩ = some (.int .i64 t28) ∧
 br (decide (t28 > 0)) (
 ∃ t31 : Int, w5.cell? ⟨b, 2, none⟩ = some (.int .i64 t31) ∧
 storeC w5 b 2 [.int .i64 (IntKind.wrap .i64 (t31 - 1))] fun w7 =>
 ∃ t34A : Option Addr, ∃ t34N : Nat, ∃ t34C : Nat, w7.cell? ⟨b, 0, none⟩ = some (.slice t34A t34N t34C) ∧ ∃ t34 : Int, w7.cell? ⟨b, 1, none⟩ = some (.int .i64 t34) ∧ ∃ t341 : Int, w7.cell? ⟨b, 2, none⟩ = some (.int .i64 t341) ∧ ∃ t342 : Int, w7.cell? ⟨b, 3, none⟩ = some (.int .i64 t342) ∧ 
 storeC w7 b1 0 [.slice t34A t34N t34C, .int .i64 t34, .int .i64 t341, .int .i64 t342] fun w8 =>
 ∃ rA1 : Option Addr, ∃ rN1 : Nat, ∃ rC1 : Nat, w8.cell? ⟨b1, 0, none⟩ = some (.slice rA1 rN1 rC1) ∧ ∃ r3 : Int, w8.cell? ⟨b1, 1, none⟩ = some (.int .i64 r3) ∧ ∃ r4 : Int, w8.cell? ⟨b1, 2, none⟩ = some (.int .i64 r4) ∧ ∃ r5 : Int, w8.cell? ⟨b1, 3, none⟩ = some (.int .i64 r5) ∧ 
 R (.tuple #[.agg #[.slice rA1 rN1 rC1, .int .i64 r3, .int .i64 r4, .int .i64 r5], .bool true, .int .i64 0]) w8) (
 br (until1 == 0) (
 ∃ t37A : Option Addr, ∃ t37N : Nat, ∃ t37C : Nat, w5.cell? ⟨b, 0, none⟩ = some (.slice t37A t37N t37C) ∧ ∃ t37 : Int, w5.cell? ⟨b, 1, none⟩ = some (.int .i64 t37) ∧ ∃ t371 : Int, w5.cell? ⟨b, 2, none⟩ = some (.int .i64 t371) ∧ ∃ t372 : Int, w5.cell? ⟨b, 3, none⟩ = some (.int .i64 t372) ∧ 
 storeC w5 b1 0 [.slice t37A t37N t37C, .int .i64 t37, .int .i64 t371, .int .i64 t372] fun w9 =>
 ∃ rA2 : Option Addr, ∃ rN2 : Nat, ∃ rC2 : Nat, w9.cell? ⟨b1, 0, none⟩ = some (.slice rA2 rN2 rC2) ∧ ∃ r6 : Int, w9.cell? ⟨b1, 1, none⟩ = some (.int .i64 r6) ∧ ∃ r7 : Int, w9.cell? ⟨b1, 2, none⟩ = some (.int .i64 r7) ∧ ∃ r8 : Int, w9.cell? ⟨b1, 3, none⟩ = some (.int .i64 r8) ∧ 
 R (.tuple #[.agg #[.slice rA2 rN2 rC2, .int .i64 r6, .int .i64 r7, .int .i64 r8], .bool false, .int .i64 0]) w9) (
 ∃ t40A : Option Addr, ∃ t40N : Nat, ∃ t40C : Nat, w5.cell? ⟨b, 0, none⟩ = some (.slice t40A t40N t40C) ∧ ∃ t40 : Int, w5.cell? ⟨b, 1, none⟩ = some (.int .i64 t40) ∧ 
 Calls Try.prog 74 #[.agg #[.slice t40A t40N t40C, .int .i64 t40], .int .i64 id, .int .i64 prio, .int .i64 until1] w5 (fun e w10 => ∃ t44A : Option Addr, ∃ t44N : Nat, ∃ t44C : Nat, ∃ t44 : Int, ∃ t441 : Int, e = .returned (.tuple #[.agg #[.slice t44A t44N t44C, .int .i64 t44], .int .i64 t441]) ∧
 newBlk w10 (.cells #[.slice none 0 0, .int .i64 0] 77 (0, 0)) fun b3 w11 =>
 storeC w11 b3 0 [.slice t44A t44N t44C, .int .i64 t44] fun w12 =>
 ∃ t47A : Option Addr, ∃ t47N : Nat, ∃ t47C : Nat, w12.cell? ⟨b3, 0, none⟩ = some (.slice t47A t47N t47C) ∧ ∃ t47 : Int, w12.cell? ⟨b3, 1, none⟩ = some (.int .i64 t47) ∧ 
 storeC w12 b 0 [.slice t47A t47N t47C, .int .i64 t47] fun w13 =>
 ∃ t49A : Option Addr, ∃ t49N : Nat, ∃ t49C : Nat, w13.cell? ⟨b, 0, none⟩ = some (.slice t49A t49N t49C) ∧ ∃ t49 : Int, w13.cell? ⟨b, 1, none⟩ = some (.int .i64 t49) ∧ ∃ t491 : Int, w13.cell? ⟨b, 2, none⟩ = some (.int .i64 t491) ∧ ∃ t492 : Int, w13.cell? ⟨b, 3, none⟩ = some (.int .i64 t492) ∧ 
 storeC w13 b1 0 [.slice t49A t49N t49C, .int .i64 t49, .int .i64 t491, .int .i64 t492] fun w14 =>
 ∃ rA3 : Option Addr, ∃ rN3 : Nat, ∃ rC3 : Nat, w14.cell? ⟨b1, 0, none⟩ = some (.slice rA3 rN3 rC3) ∧ ∃ r9 : Int, w14.cell? ⟨b1, 1, none⟩ = some (.int .i64 r9) ∧ ∃ r10 : Int, w14.cell? ⟨b1, 2, none⟩ = some (.int .i64 r10) ∧ ∃ r11 : Int, w14.cell? ⟨b1, 3, none⟩ = some (.int .i64 r11) ∧ 
 R (.tuple #[.agg #[.slice rA3 rN3 rC3, .int .i64 r9, .int .i64 r10, .int .i64 r11], .bool false, .int .i64 t441]) w14)))))

theorem purlinref15_Wait.vc (sA : Option Addr) (sN : Nat) (sC : Nat) (s : Int) (s1 : Int) (s2 : Int) (id : Int) (prio : Int) (until1 : Int) (w : World) (R : Value → World → Prop) : fnVC Try.prog purlinref15_Wait.A Try.f47 [.agg #[.slice sA sN sC, .int .i64 s, .int .i64 s1, .int .i64 s2], .int .i64 id, .int .i64 prio, .int .i64 until1] w R = purlinref15_Wait.F sA sN sC s s1 s2 id prio until1 w R := by kernel_rfl
theorem purlinref15_Wait.calls (sA : Option Addr) (sN : Nat) (sC : Nat) (s : Int) (s1 : Int) (s2 : Int) (id : Int) (prio : Int) (until1 : Int) (w : World) (R : Value → World → Prop) (h : purlinref15_Wait.F sA sN sC s s1 s2 id prio until1 w R) : Calls Try.prog 47 #[.agg #[.slice sA sN sC, .int .i64 s, .int .i64 s1, .int .i64 s2], .int .i64 id, .int .i64 prio, .int .i64 until1] w (Ret R) :=
  calls_of_vc mixed Try.func47 (Eq.mpr (purlinref15_Wait.vc sA sN sC s s1 s2 id prio until1 w R) h)

/-! ### purlin/purlinref15.Signal: function 48 -/
def purlinref15_Signal.A : Ann where
  sched := fun i => match i with
    | _ => none
  loop := fun i => match i with
    | _ => none

def purlinref15_Signal.F (sA : Option Addr) (sN : Nat) (sC : Nat) (s : Int) (s1 : Int) (s2 : Int) (w : World) (R : Value → World → Prop) : Prop :=
 newBlk w (.cells #[.slice sA sN sC, .int .i64 s, .int .i64 s1, .int .i64 s2] 97 (0, 0)) fun b w1 =>
 newBlk w1 (.cells #[.slice none 0 0, .int .i64 0, .int .i64 0, .int .i64 0] 97 (0, 0)) fun b1 w2 =>
 ∃ t11A : Option Addr, ∃ t11N : Nat, ∃ t11C : Nat, w2.cell? ⟨b, 0, none⟩ = some (.slice t11A t11N t11C) ∧ ∃ t11 : Int, w2.cell? ⟨b, 1, none⟩ = some (.int .i64 t11) ∧ 
 Calls Try.prog 78 #[.agg #[.slice t11A t11N t11C, .int .i64 t11]] w2 (fun e w3 => ∃ t12A : Option Addr, ∃ t12N : Nat, ∃ t12C : Nat, ∃ t12 : Int, ∃ t121 : Int, ∃ t122 : Bool, e = .returned (.tuple #[.agg #[.slice t12A t12N t12C, .int .i64 t12], .int .i64 t121, .bool t122]) ∧
 newBlk w3 (.cells #[.slice none 0 0, .int .i64 0] 77 (0, 0)) fun b2 w4 =>
 storeC w4 b2 0 [.slice t12A t12N t12C, .int .i64 t12] fun w5 =>
 br t122 (
 ∃ t17A : Option Addr, ∃ t17N : Nat, ∃ t17C : Nat, w5.cell? ⟨b2, 0, none⟩ = some (.slice t17A t17N t17C) ∧ ∃ t17 : Int, w5.cell? ⟨b2, 1, none⟩ = some (.int .i64 t17) ∧ 
 storeC w5 b 0 [.slice t17A t17N t17C, .int .i64 t17] fun w6 =>
 ∃ t19A : Option Addr, ∃ t19N : Nat, ∃ t19C : Nat, w6.cell? ⟨b, 0, none⟩ = some (.slice t19A t19N t19C) ∧ ∃ t19 : Int, w6.cell? ⟨b, 1, none⟩ = some (.int .i64 t19) ∧ ∃ t191 : Int, w6.cell? ⟨b, 2, none⟩ = some (.int .i64 t191) ∧ ∃ t192 : Int, w6.cell? ⟨b, 3, none⟩ = some (.int .i64 t192) ∧ 
 storeC w6 b1 0 [.slice t19A t19N t19C, .int .i64 t19, .int .i64 t191, .int .i64 t192] fun w7 =>
 ∃ rA : Option Addr, ∃ rN : Nat, ∃ rC : Nat, w7.cell? ⟨b1, 0, none⟩ = some (.slice rA rN rC) ∧ ∃ r : Int, w7.cell? ⟨b1, 1, none⟩ = some (.int .i64 r) ∧ ∃ r1 : Int, w7.cell? ⟨b1, 2, none⟩ = some (.int .i64 r1) ∧ ∃ r2 : Int, w7.cell? ⟨b1, 3, none⟩ = some (.int .i64 r2) ∧ 
 R (.tuple #[.agg #[.slice rA rN rC, .int .i64 r, .int .i64 r1, .int .i64 r2], .int .i64 t121, .bool true, .int .i64 0]) w7) (
 ∃ t22 : Int, w5.cell? ⟨b, 2, none⟩ = some (.int .i64 t22) ∧
 ∃ t24 : Int, w5.cell? ⟨b, 3, none⟩ = some (.int .i64 t24) ∧
 br (decide (t22 ≥ t24)) (
 ∃ t26A : Option Addr, ∃ t26N : Nat, ∃ t26C : Nat, w5.cell? ⟨b, 0, none⟩ = some (.slice t26A t26N t26C) ∧ ∃ t26 : Int, w5.cell? ⟨b, 1, none⟩ = some (.int .i64 t26) ∧ ∃ t261 : Int, w5.cell? ⟨b, 2, none⟩ = some (.int .i64 t261) ∧ ∃ t262 : Int, w5.cell? ⟨b, 3, none⟩ = some (.int .i64 t262) ∧ 
 storeC w5 b1 0 [.slice t26A t26N t26C, .int .i64 t26, .int .i64 t261, .int .i64 t262] fun w8 =>
 ∃ rA1 : Option Addr, ∃ rN1 : Nat, ∃ rC1 : Nat, w8.cell? ⟨b1, 0, none⟩ = some (.slice rA1 rN1 rC1) ∧ ∃ r3 : Int, w8.cell? ⟨b1, 1, none⟩ = some (.int .i64 r3) ∧ ∃ r4 : Int, w8.cell? ⟨b1, 2, none⟩ = some (.int .i64 r4) ∧ ∃ r5 : Int, w8.cell? ⟨b1, 3, none⟩ = some (.int .i64 r5) ∧ 
 R (.tuple #[.agg #[.slice rA1 rN1 rC1, .int .i64 r3, .int .i64 r4, .int .i64 r5], .int .i64 0, .bool false, .int .i64 151]) w8) (
 ∃ t28 : Int, w5.cell? ⟨b, 2, none⟩ = some (.int .i64 t28) ∧
 storeC w5 b 2 [.int .i64 (IntKind.wrap .i64 (t28 + 1))] fun w9 =>
 ∃ t31A : Option Addr, ∃ t31N : Nat, ∃ t31C : Nat, w9.cell? ⟨b, 0, none⟩ = some (.slice t31A t31N t31C) ∧ ∃ t31 : Int, w9.cell? ⟨b, 1, none⟩ = some (.int .i64 t31) ∧ ∃ t311 : Int, w9.cell? ⟨b, 2, none⟩ = some (.int .i64 t311) ∧ ∃ t312 : Int, w9.cell? ⟨b, 3, none⟩ = some (.int .i64 t312) ∧ 
 storeC w9 b1 0 [.slice t31A t31N t31C, .int .i64 t31, .int .i64 t311, .int .i64 t312] fun w10 =>
 ∃ rA2 : Option Addr, ∃ rN2 : Nat, ∃ rC2 : Nat, w10.cell? ⟨b1, 0, none⟩ = some (.slice rA2 rN2 rC2) ∧ ∃ r6 : Int, w10.cell? ⟨b1, 1, none⟩ = some (.int .i64 r6) ∧ ∃ r7 : Int, w10.cell? ⟨b1, 2, none⟩ = some (.int .i64 r7) ∧ ∃ r8 : Int, w10.cell? ⟨b1, 3, none⟩ = some (.int .i64 r8) ∧ 
 R (.tuple #[.agg #[.slice rA2 rN2 rC2, .int .i64 r6, .int .i64 r7, .int .i64 r8], .int .i64 0, .bool false, .int .i64 0]) w10)))

theorem purlinref15_Signal.vc (sA : Option Addr) (sN : Nat) (sC : Nat) (s : Int) (s1 : Int) (s2 : Int) (w : World) (R : Value → World → Prop) : fnVC Try.prog purlinref15_Signal.A Try.f48 [.agg #[.slice sA sN sC, .int .i64 s, .int .i64 s1, .int .i64 s2]] w R = purlinref15_Signal.F sA sN sC s s1 s2 w R := by kernel_rfl
theorem purlinref15_Signal.calls (sA : Option Addr) (sN : Nat) (sC : Nat) (s : Int) (s1 : Int) (s2 : Int) (w : World) (R : Value → World → Prop) (h : purlinref15_Signal.F sA sN sC s s1 s2 w R) : Calls Try.prog 48 #[.agg #[.slice sA sN sC, .int .i64 s, .int .i64 s1, .int .i64 s2]] w (Ret R) :=
  calls_of_vc mixed Try.func48 (Eq.mpr (purlinref15_Signal.vc sA sN sC s s1 s2 w R) h)

end Go.Proofs.Ytecacohkkdhphaa
