/- Printed by vcgen.py: of each function of this text its weakest precondition as a formula, and that it is one. Conditions: none. -/
import Derived.Test.YtmihgfhpmnomoaaDoorVcCode
import Derived.Test.YtmihgfhpmnomoaaDoorVcMem
import Derived.Test.YtmihgfhpmnomoaaDoorChecked
namespace Go.Proofs.YtmihgfhpmnomoaaDoor
open Go.Vc
set_option linter.unusedVariables false
set_option maxRecDepth 100000

/-! ### purlin/purlinlaw21.CallShows: function 4 -/
def purlinlaw21_CallShows.A : Ann where
  sched := fun i => match i with
    | _ => none
  loop := fun i => match i with
    | _ => none

def purlinlaw21_CallShows.F (x : Int) (x1 : Int) (x2 : Int) (x3 : ByteArray) (w : World) (R : Value → World → Prop) : Prop :=
 newBlk w (.cells #[.int .i64 x, .int .i64 x1, .int .i64 x2, .string x3] 30 (0, 0)) fun b w1 =>
 ∃ t7 : Int, w1.cell? ⟨b, 0, none⟩ = some (.int .i64 t7) ∧ ∃ t71 : Int, w1.cell? ⟨b, 1, none⟩ = some (.int .i64 t71) ∧ ∃ t72 : Int, w1.cell? ⟨b, 2, none⟩ = some (.int .i64 t72) ∧ ∃ t73 : ByteArray, w1.cell? ⟨b, 3, none⟩ = some (.string t73) ∧ 
 Calls Tryd.prog 13 #[.agg #[.int .i64 t7, .int .i64 t71, .int .i64 t72, .string t73]] w1 (fun e w2 => ∃ t8 : Bool, e = .returned (.bool t8) ∧
 br (!t8) (
 Calls Tryd.prog 12 #[] w2 (fun e w3 => ∃ t10 : Bool, e = .returned (.bool t10) ∧
 R (.bool t10) w3)) (
 ∃ t12 : Int, w2.cell? ⟨b, 0, none⟩ = some (.int .i64 t12) ∧ ∃ t121 : Int, w2.cell? ⟨b, 1, none⟩ = some (.int .i64 t121) ∧ ∃ t122 : Int, w2.cell? ⟨b, 2, none⟩ = some (.int .i64 t122) ∧ ∃ t123 : ByteArray, w2.cell? ⟨b, 3, none⟩ = some (.string t123) ∧ 
 Calls Tryd.prog 14 #[.agg #[.int .i64 t12, .int .i64 t121, .int .i64 t122, .string t123]] w2 (fun e w4 => ∃ t13 : ByteArray, ∃ t131 : Int, e = .returned (.tuple #[.string t13, .int .i64 t131]) ∧
 ∃ t17 : Int, w4.cell? ⟨b, 0, none⟩ = some (.int .i64 t17) ∧ ∃ t171 : Int, w4.cell? ⟨b, 1, none⟩ = some (.int .i64 t171) ∧ ∃ t172 : Int, w4.cell? ⟨b, 2, none⟩ = some (.int .i64 t172) ∧ ∃ t173 : ByteArray, w4.cell? ⟨b, 3, none⟩ = some (.string t173) ∧ 
 Calls Tryd.prog 15 #[.agg #[.int .i64 t17, .int .i64 t171, .int .i64 t172, .string t173]] w4 (fun e w5 => ∃ t18 : ByteArray, ∃ t181 : Int, e = .returned (.tuple #[.string t18, .int .i64 t181]) ∧
 Calls Tryd.prog 12 #[] w5 (fun e w6 => ∃ t21 : Bool, e = .returned (.bool t21) ∧
 br t21 (
 br (t13.toList == t18.toList) (
 R (.bool (t131 == t181)) w6) (
 R (.bool false) w6)) (
 R (.bool false) w6))))))

theorem purlinlaw21_CallShows.vc (x : Int) (x1 : Int) (x2 : Int) (x3 : ByteArray) (w : World) (R : Value → World → Prop) : fnVC Tryd.prog purlinlaw21_CallShows.A Tryd.f4 [.agg #[.int .i64 x, .int .i64 x1, .int .i64 x2, .string x3]] w R = purlinlaw21_CallShows.F x x1 x2 x3 w R := by kernel_rfl
theorem purlinlaw21_CallShows.calls (x : Int) (x1 : Int) (x2 : Int) (x3 : ByteArray) (w : World) (R : Value → World → Prop) (h : purlinlaw21_CallShows.F x x1 x2 x3 w R) : Calls Tryd.prog 4 #[.agg #[.int .i64 x, .int .i64 x1, .int .i64 x2, .string x3]] w (Ret R) :=
  calls_of_vc mixed Tryd.func4 (Eq.mpr (purlinlaw21_CallShows.vc x x1 x2 x3 w R) h)

end Go.Proofs.YtmihgfhpmnomoaaDoor
