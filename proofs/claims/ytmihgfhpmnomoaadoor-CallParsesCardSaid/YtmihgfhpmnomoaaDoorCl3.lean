/- Printed by vcgen.py: of each function of this text its weakest precondition as a formula, and that it is one. Conditions: none. -/
import Derived.Test.YtmihgfhpmnomoaaDoorVcCode
import Derived.Test.YtmihgfhpmnomoaaDoorVcMem
import Derived.Test.YtmihgfhpmnomoaaDoorChecked
namespace Go.Proofs.YtmihgfhpmnomoaaDoor
open Go.Vc
set_option linter.unusedVariables false
set_option maxRecDepth 100000

/-! ### purlin/purlinlaw21.CallParses: function 5 -/
def purlinlaw21_CallParses.A : Ann where
  sched := fun i => match i with
    | _ => none
  loop := fun i => match i with
    | _ => none

def purlinlaw21_CallParses.F (s : ByteArray) (w : World) (R : Value → World → Prop) : Prop :=
 br (decide ((s.size : Int) > 1000)) (
 Calls Tryd.prog 12 #[] w (fun e w1 => ∃ t10 : Bool, e = .returned (.bool t10) ∧
 R (.bool t10) w1)) (
 Calls Tryd.prog 16 #[.string s] w (fun e w2 => ∃ t13 : Int, ∃ t131 : Int, ∃ t132 : Int, ∃ t133 : ByteArray, ∃ t134 : Int, e = .returned (.tuple #[.agg #[.int .i64 t13, .int .i64 t131, .int .i64 t132, .string t133], .int .i64 t134]) ∧
 newBlk w2 (.cells #[.int .i64 0, .int .i64 0, .int .i64 0, .string (⟨#[]⟩ : ByteArray)] 30 (0, 0)) fun b w3 =>
 storeC w3 b 0 [.int .i64 t13, .int .i64 t131, .int .i64 t132, .string t133] fun w4 =>
 Calls Tryd.prog 17 #[.string s] w4 (fun e w5 => ∃ t18 : Int, ∃ t181 : Int, ∃ t182 : Int, ∃ t183 : ByteArray, ∃ t184 : Int, e = .returned (.tuple #[.agg #[.int .i64 t18, .int .i64 t181, .int .i64 t182, .string t183], .int .i64 t184]) ∧
 newBlk w5 (.cells #[.int .i64 0, .int .i64 0, .int .i64 0, .string (⟨#[]⟩ : ByteArray)] 30 (0, 0)) fun b1 w6 =>
 storeC w6 b1 0 [.int .i64 t18, .int .i64 t181, .int .i64 t182, .string t183] fun w7 =>
 Calls Tryd.prog 12 #[] w7 (fun e w8 => ∃ t21 : Bool, e = .returned (.bool t21) ∧
 br t21 (
 ∃ t23 : Int, w8.cell? ⟨b, 0, none⟩ = some (.int .i64 t23) ∧ ∃ t231 : Int, w8.cell? ⟨b, 1, none⟩ = some (.int .i64 t231) ∧ ∃ t232 : Int, w8.cell? ⟨b, 2, none⟩ = some (.int .i64 t232) ∧ ∃ t233 : ByteArray, w8.cell? ⟨b, 3, none⟩ = some (.string t233) ∧ 
 ∃ t24 : Int, w8.cell? ⟨b1, 0, none⟩ = some (.int .i64 t24) ∧ ∃ t241 : Int, w8.cell? ⟨b1, 1, none⟩ = some (.int .i64 t241) ∧ ∃ t242 : Int, w8.cell? ⟨b1, 2, none⟩ = some (.int .i64 t242) ∧ ∃ t243 : ByteArray, w8.cell? ⟨b1, 3, none⟩ = some (.string t243) ∧ 
 ∃ q : Bool, (eqRun .eql 30 (.tmp 23) (.tmp 24) (.agg #[.int .i64 t23, .int .i64 t231, .int .i64 t232, .string t233]) (.agg #[.int .i64 t24, .int .i64 t241, .int .i64 t242, .string t243])).run Tryd.prog w8 = .ok (.bool q) w8 ∧
 br q (
 R (.bool (t134 == t184)) w8) (
 R (.bool false) w8)) (
 R (.bool false) w8)))))

theorem purlinlaw21_CallParses.vc (s : ByteArray) (w : World) (R : Value → World → Prop) : fnVC Tryd.prog purlinlaw21_CallParses.A Tryd.f5 [.string s] w R = purlinlaw21_CallParses.F s w R := by kernel_rfl
theorem purlinlaw21_CallParses.calls (s : ByteArray) (w : World) (R : Value → World → Prop) (h : purlinlaw21_CallParses.F s w R) : Calls Tryd.prog 5 #[.string s] w (Ret R) :=
  calls_of_vc mixed Tryd.func5 (Eq.mpr (purlinlaw21_CallParses.vc s w R) h)

end Go.Proofs.YtmihgfhpmnomoaaDoor
