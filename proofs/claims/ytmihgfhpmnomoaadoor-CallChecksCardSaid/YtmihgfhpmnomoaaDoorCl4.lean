/- Printed by vcgen.py: of each function of this text its weakest precondition as a formula, and that it is one. Conditions: none. -/
import Derived.Test.YtmihgfhpmnomoaaDoorVcCode
import Derived.Test.YtmihgfhpmnomoaaDoorVcMem
import Derived.Test.YtmihgfhpmnomoaaDoorChecked
namespace Go.Proofs.YtmihgfhpmnomoaaDoor
open Go.Vc
set_option linter.unusedVariables false
set_option maxRecDepth 100000

/-! ### purlin/purlinlaw21.CallBack: function 6 -/
def purlinlaw21_CallBack.A : Ann where
  sched := fun i => match i with
    | _ => none
  loop := fun i => match i with
    | _ => none

def purlinlaw21_CallBack.K0 (s : ByteArray) (R : Value → World → Prop) (w10 : World) : Prop :=
 Calls Tryd.prog 16 #[.string s] w10 (fun e w11 => ∃ t43 : Int, ∃ t431 : Int, ∃ t432 : Int, ∃ t433 : ByteArray, ∃ t434 : Int, e = .returned (.tuple #[.agg #[.int .i64 t43, .int .i64 t431, .int .i64 t432, .string t433], .int .i64 t434]) ∧
 newBlk w11 (.cells #[.int .i64 0, .int .i64 0, .int .i64 0, .string (⟨#[]⟩ : ByteArray)] 30 (0, 0)) fun b2 w12 =>
 storeC w12 b2 0 [.int .i64 t43, .int .i64 t431, .int .i64 t432, .string t433] fun w13 =>
 br (t434 == 0) (
 ∃ t49 : Int, w13.cell? ⟨b2, 0, none⟩ = some (.int .i64 t49) ∧ ∃ t491 : Int, w13.cell? ⟨b2, 1, none⟩ = some (.int .i64 t491) ∧ ∃ t492 : Int, w13.cell? ⟨b2, 2, none⟩ = some (.int .i64 t492) ∧ ∃ t493 : ByteArray, w13.cell? ⟨b2, 3, none⟩ = some (.string t493) ∧ 
 Calls Tryd.prog 14 #[.agg #[.int .i64 t49, .int .i64 t491, .int .i64 t492, .string t493]] w13 (fun e w14 => ∃ t50 : ByteArray, ∃ t501 : Int, e = .returned (.tuple #[.string t50, .int .i64 t501]) ∧
 br (t501 != 0) (
 R (.bool false) w14) (
 br (!(t50.toList == s.toList)) (
 R (.bool false) w14) (
 Calls Tryd.prog 12 #[] w14 (fun e w16 => ∃ t60 : Bool, e = .returned (.bool t60) ∧
 R (.bool t60) w16))))) (
 Calls Tryd.prog 12 #[] w13 (fun e w16 => ∃ t60 : Bool, e = .returned (.bool t60) ∧
 R (.bool t60) w16)))

def purlinlaw21_CallBack.F (x : Int) (x1 : Int) (x2 : Int) (x3 : ByteArray) (s : ByteArray) (w : World) (R : Value → World → Prop) : Prop :=
 newBlk w (.cells #[.int .i64 x, .int .i64 x1, .int .i64 x2, .string x3] 30 (0, 0)) fun b w1 =>
 ∃ t13 : Int, w1.cell? ⟨b, 0, none⟩ = some (.int .i64 t13) ∧ ∃ t131 : Int, w1.cell? ⟨b, 1, none⟩ = some (.int .i64 t131) ∧ ∃ t132 : Int, w1.cell? ⟨b, 2, none⟩ = some (.int .i64 t132) ∧ ∃ t133 : ByteArray, w1.cell? ⟨b, 3, none⟩ = some (.string t133) ∧ 
 Calls Tryd.prog 13 #[.agg #[.int .i64 t13, .int .i64 t131, .int .i64 t132, .string t133]] w1 (fun e w2 => ∃ t14 : Bool, e = .returned (.bool t14) ∧
 br (!t14) (
 Calls Tryd.prog 12 #[] w2 (fun e w3 => ∃ t21 : Bool, e = .returned (.bool t21) ∧
 R (.bool t21) w3)) (
 br (decide ((s.size : Int) > 1000)) (
 Calls Tryd.prog 12 #[] w2 (fun e w5 => ∃ t211 : Bool, e = .returned (.bool t211) ∧
 R (.bool t211) w5)) (
 ∃ t23 : Int, w2.cell? ⟨b, 0, none⟩ = some (.int .i64 t23) ∧ ∃ t231 : Int, w2.cell? ⟨b, 1, none⟩ = some (.int .i64 t231) ∧ ∃ t232 : Int, w2.cell? ⟨b, 2, none⟩ = some (.int .i64 t232) ∧ ∃ t233 : ByteArray, w2.cell? ⟨b, 3, none⟩ = some (.string t233) ∧ 
 Calls Tryd.prog 14 #[.agg #[.int .i64 t23, .int .i64 t231, .int .i64 t232, .string t233]] w2 (fun e w6 => ∃ t24 : ByteArray, ∃ t241 : Int, e = .returned (.tuple #[.string t24, .int .i64 t241]) ∧
 br (t241 == 0) (
 Calls Tryd.prog 16 #[.string t24] w6 (fun e w7 => ∃ t31 : Int, ∃ t311 : Int, ∃ t312 : Int, ∃ t313 : ByteArray, ∃ t314 : Int, e = .returned (.tuple #[.agg #[.int .i64 t31, .int .i64 t311, .int .i64 t312, .string t313], .int .i64 t314]) ∧
 newBlk w7 (.cells #[.int .i64 0, .int .i64 0, .int .i64 0, .string (⟨#[]⟩ : ByteArray)] 30 (0, 0)) fun b1 w8 =>
 storeC w8 b1 0 [.int .i64 t31, .int .i64 t311, .int .i64 t312, .string t313] fun w9 =>
 br (t314 != 0) (
 R (.bool false) w9) (
 ∃ t37 : Int, w9.cell? ⟨b1, 0, none⟩ = some (.int .i64 t37) ∧ ∃ t371 : Int, w9.cell? ⟨b1, 1, none⟩ = some (.int .i64 t371) ∧ ∃ t372 : Int, w9.cell? ⟨b1, 2, none⟩ = some (.int .i64 t372) ∧ ∃ t373 : ByteArray, w9.cell? ⟨b1, 3, none⟩ = some (.string t373) ∧ 
 ∃ t38 : Int, w9.cell? ⟨b, 0, none⟩ = some (.int .i64 t38) ∧ ∃ t381 : Int, w9.cell? ⟨b, 1, none⟩ = some (.int .i64 t381) ∧ ∃ t382 : Int, w9.cell? ⟨b, 2, none⟩ = some (.int .i64 t382) ∧ ∃ t383 : ByteArray, w9.cell? ⟨b, 3, none⟩ = some (.string t383) ∧ 
 ∃ q : Bool, (eqRun .neq 30 (.tmp 37) (.tmp 38) (.agg #[.int .i64 t37, .int .i64 t371, .int .i64 t372, .string t373]) (.agg #[.int .i64 t38, .int .i64 t381, .int .i64 t382, .string t383])).run Tryd.prog w9 = .ok (.bool q) w9 ∧
 br q (
 R (.bool false) w9) (
 purlinlaw21_CallBack.K0 s R w9)))) (
 purlinlaw21_CallBack.K0 s R w6)))))

theorem purlinlaw21_CallBack.vc (x : Int) (x1 : Int) (x2 : Int) (x3 : ByteArray) (s : ByteArray) (w : World) (R : Value → World → Prop) : fnVC Tryd.prog purlinlaw21_CallBack.A Tryd.f6 [.agg #[.int .i64 x, .int .i64 x1, .int .i64 x2, .string x3], .string s] w R = purlinlaw21_CallBack.F x x1 x2 x3 s w R := by kernel_rfl
theorem purlinlaw21_CallBack.calls (x : Int) (x1 : Int) (x2 : Int) (x3 : ByteArray) (s : ByteArray) (w : World) (R : Value → World → Prop) (h : purlinlaw21_CallBack.F x x1 x2 x3 s w R) : Calls Tryd.prog 6 #[.agg #[.int .i64 x, .int .i64 x1, .int .i64 x2, .string x3], .string s] w (Ret R) :=
  calls_of_vc mixed Tryd.func6 (Eq.mpr (purlinlaw21_CallBack.vc x x1 x2 x3 s w R) h)

end Go.Proofs.YtmihgfhpmnomoaaDoor
