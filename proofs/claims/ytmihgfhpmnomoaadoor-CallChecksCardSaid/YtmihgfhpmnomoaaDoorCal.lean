/- Printed by vcgen.py: of each function of this text its weakest precondition as a formula, and that it is one. Conditions: none. -/
import Derived.Test.YtmihgfhpmnomoaaDoorVcCode
import Derived.Test.YtmihgfhpmnomoaaDoorVcMem
import Derived.Test.YtmihgfhpmnomoaaDoorChecked
namespace Go.Proofs.YtmihgfhpmnomoaaDoor
open Go.Vc
set_option linter.unusedVariables false
set_option maxRecDepth 100000

/-! ### purlin/purlinlaw21.awake: function 12 -/
def purlinlaw21_awake.A : Ann where
  sched := fun i => match i with
    | _ => none
  loop := fun i => match i with
    | _ => none

def purlinlaw21_awake.F (w : World) (R : Value → World → Prop) : Prop :=
 Calls Tryd.prog 14 #[.agg #[.int .i64 1, .int .i64 0, .int .i64 (-1), .string (⟨#[]⟩ : ByteArray)]] w (fun e w1 => ∃ t19 : ByteArray, ∃ t191 : Int, e = .returned (.tuple #[.string t19, .int .i64 t191]) ∧
 Calls Tryd.prog 14 #[.agg #[.int .i64 23, .int .i64 2, .int .i64 0, .string (⟨#[97, 32, 98]⟩ : ByteArray)]] w1 (fun e w2 => ∃ t24 : ByteArray, ∃ t241 : Int, e = .returned (.tuple #[.string t24, .int .i64 t241]) ∧
 Calls Tryd.prog 16 #[.string (⟨#[110, 111, 119]⟩ : ByteArray)] w2 (fun e w3 => ∃ t28 : Int, ∃ t281 : Int, ∃ t282 : Int, ∃ t283 : ByteArray, ∃ t284 : Int, e = .returned (.tuple #[.agg #[.int .i64 t28, .int .i64 t281, .int .i64 t282, .string t283], .int .i64 t284]) ∧
 newBlk w3 (.cells #[.int .i64 0, .int .i64 0, .int .i64 0, .string (⟨#[]⟩ : ByteArray)] 30 (0, 0)) fun b w4 =>
 storeC w4 b 0 [.int .i64 t28, .int .i64 t281, .int .i64 t282, .string t283] fun w5 =>
 Calls Tryd.prog 16 #[.string (⟨#[110, 111, 119, 32, 49]⟩ : ByteArray)] w5 (fun e w6 => ∃ t32 : Int, ∃ t321 : Int, ∃ t322 : Int, ∃ t323 : ByteArray, ∃ t324 : Int, e = .returned (.tuple #[.agg #[.int .i64 t32, .int .i64 t321, .int .i64 t322, .string t323], .int .i64 t324]) ∧
 newBlk w6 (.cells #[.int .i64 0, .int .i64 0, .int .i64 0, .string (⟨#[]⟩ : ByteArray)] 30 (0, 0)) fun b1 w7 =>
 storeC w7 b1 0 [.int .i64 t32, .int .i64 t321, .int .i64 t322, .string t323] fun w8 =>
 Calls Tryd.prog 16 #[.string (⟨#[115, 108, 101, 101, 112, 32, 48, 49]⟩ : ByteArray)] w8 (fun e w9 => ∃ t36 : Int, ∃ t361 : Int, ∃ t362 : Int, ∃ t363 : ByteArray, ∃ t364 : Int, e = .returned (.tuple #[.agg #[.int .i64 t36, .int .i64 t361, .int .i64 t362, .string t363], .int .i64 t364]) ∧
 newBlk w9 (.cells #[.int .i64 0, .int .i64 0, .int .i64 0, .string (⟨#[]⟩ : ByteArray)] 30 (0, 0)) fun b2 w10 =>
 storeC w10 b2 0 [.int .i64 t36, .int .i64 t361, .int .i64 t362, .string t363] fun w11 =>
 Calls Tryd.prog 16 #[.string (⟨#[115, 101, 110, 100, 32, 50, 32, 97]⟩ : ByteArray)] w11 (fun e w12 => ∃ t40 : Int, ∃ t401 : Int, ∃ t402 : Int, ∃ t403 : ByteArray, ∃ t404 : Int, e = .returned (.tuple #[.agg #[.int .i64 t40, .int .i64 t401, .int .i64 t402, .string t403], .int .i64 t404]) ∧
 newBlk w12 (.cells #[.int .i64 0, .int .i64 0, .int .i64 0, .string (⟨#[]⟩ : ByteArray)] 30 (0, 0)) fun b3 w13 =>
 storeC w13 b3 0 [.int .i64 t40, .int .i64 t401, .int .i64 t402, .string t403] fun w14 =>
 Calls Tryd.prog 14 #[.agg #[.int .i64 17, .int .i64 1, .int .i64 0, .string (⟨#[]⟩ : ByteArray)]] w14 (fun e w15 => ∃ t45 : ByteArray, ∃ t451 : Int, e = .returned (.tuple #[.string t45, .int .i64 t451]) ∧
 Calls Tryd.prog 11 #[.string (⟨#[108, 111, 103, 101, 110, 116, 114, 121]⟩ : ByteArray)] w15 (fun e w16 => ∃ t49 : Int, ∃ t491 : Bool, e = .returned (.tuple #[.int .i64 t49, .bool t491]) ∧
 br (t19.toList == (⟨#[115, 101, 109, 119, 97, 105, 116, 32, 48, 32, 45, 49]⟩ : ByteArray).toList) (
 br (t191 == 0) (
 br (t24.toList == (⟨#[115, 101, 110, 100, 32, 50, 32, 61, 97, 32, 98]⟩ : ByteArray).toList) (
 br (t241 == 0) (
 ∃ t67 : Int, w16.cell? ⟨b, 0, none⟩ = some (.int .i64 t67) ∧ ∃ t671 : Int, w16.cell? ⟨b, 1, none⟩ = some (.int .i64 t671) ∧ ∃ t672 : Int, w16.cell? ⟨b, 2, none⟩ = some (.int .i64 t672) ∧ ∃ t673 : ByteArray, w16.cell? ⟨b, 3, none⟩ = some (.string t673) ∧ 
 ∃ q : Bool, (eqRun .eql 30 (.tmp 67) (.tmp 68) (.agg #[.int .i64 t67, .int .i64 t671, .int .i64 t672, .string t673]) (.agg #[.int .i64 17, .int .i64 0, .int .i64 0, .string (⟨#[]⟩ : ByteArray)])).run Tryd.prog w16 = .ok (.bool q) w16 ∧
 br q (
 br (t284 == 0) (
 br (t324 == 223) (
 br (t364 == 223) (
 br (t404 == 223) (
 br (t451 == 220) (
 br (t49 == 30) (
 br t491 (
 Calls Tryd.prog 10 #[.int .i64 31] w16 (fun e w17 => ∃ t99 : ByteArray, e = .returned (.string t99) ∧
 R (.bool (t99.toList == (⟨#[]⟩ : ByteArray).toList)) w17)) (
 R (.bool false) w16)) (
 R (.bool false) w16)) (
 R (.bool false) w16)) (
 R (.bool false) w16)) (
 R (.bool false) w16)) (
 R (.bool false) w16)) (
 R (.bool false) w16)) (
 R (.bool false) w16)) (
 R (.bool false) w16)) (
 R (.bool false) w16)) (
 R (.bool false) w16)) (
 R (.bool false) w16)))))))))

theorem purlinlaw21_awake.vc (w : World) (R : Value → World → Prop) : fnVC Tryd.prog purlinlaw21_awake.A Tryd.f12 [] w R = purlinlaw21_awake.F w R := by kernel_rfl
theorem purlinlaw21_awake.calls (w : World) (R : Value → World → Prop) (h : purlinlaw21_awake.F w R) : Calls Tryd.prog 12 #[] w (Ret R) :=
  calls_of_vc mixed Tryd.func12 (Eq.mpr (purlinlaw21_awake.vc w R) h)

/-! ### purlin/purlinlaw21.few: function 13 -/
def purlinlaw21_few.A : Ann where
  sched := fun i => match i with
    | _ => none
  loop := fun i => match i with
    | _ => none

def purlinlaw21_few.F (x : Int) (x1 : Int) (x2 : Int) (x3 : ByteArray) (w : World) (R : Value → World → Prop) : Prop :=
 newBlk w (.cells #[.int .i64 x, .int .i64 x1, .int .i64 x2, .string x3] 30 (0, 0)) fun b w1 =>
 ∃ t4 : ByteArray, w1.cell? ⟨b, 3, none⟩ = some (.string t4) ∧
 R (.bool (decide ((t4.size : Int) ≤ 1000))) w1

theorem purlinlaw21_few.vc (x : Int) (x1 : Int) (x2 : Int) (x3 : ByteArray) (w : World) (R : Value → World → Prop) : fnVC Tryd.prog purlinlaw21_few.A Tryd.f13 [.agg #[.int .i64 x, .int .i64 x1, .int .i64 x2, .string x3]] w R = purlinlaw21_few.F x x1 x2 x3 w R := by kernel_rfl
theorem purlinlaw21_few.calls (x : Int) (x1 : Int) (x2 : Int) (x3 : ByteArray) (w : World) (R : Value → World → Prop) (h : purlinlaw21_few.F x x1 x2 x3 w R) : Calls Tryd.prog 13 #[.agg #[.int .i64 x, .int .i64 x1, .int .i64 x2, .string x3]] w (Ret R) :=
  calls_of_vc mixed Tryd.func13 (Eq.mpr (purlinlaw21_few.vc x x1 x2 x3 w R) h)

end Go.Proofs.YtmihgfhpmnomoaaDoor
