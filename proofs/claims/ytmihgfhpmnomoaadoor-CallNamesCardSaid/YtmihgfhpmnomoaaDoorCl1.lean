/- Printed by vcgen.py: of each function of this text its weakest precondition as a formula, and that it is one. Conditions: none. -/
import Derived.Test.YtmihgfhpmnomoaaDoorVcCode
import Derived.Test.YtmihgfhpmnomoaaDoorVcMem
import Derived.Test.YtmihgfhpmnomoaaDoorChecked
namespace Go.Proofs.YtmihgfhpmnomoaaDoor
open Go.Vc
set_option linter.unusedVariables false
set_option maxRecDepth 100000

/-! ### purlin/purlinlaw21.CallNames: function 3 -/
def purlinlaw21_CallNames.A : Ann where
  sched := fun i => match i with
    | _ => none
  loop := fun i => match i with
    | 10 => some [(4, none), (12, some (.one (.int .i64))), (13, none), (14, none), (86, none), (87, none), (88, none), (89, none), (90, none), (91, none), (92, none), (93, none), (94, none), (95, none), (96, none), (97, none)]
    | _ => none

def purlinlaw21_CallNames.L0 (name : ByteArray) (R : Value → World → Prop) (t74 : Int) (k : Int) (w11 : World) (Nx0 : Int → World → Prop) : Prop :=
 br (decide (k ≤ 30)) (
 Calls Tryd.prog 9 #[.int .i64 k] w11 (fun e w12 => ∃ t92 : ByteArray, ∃ t921 : Int, e = .returned (.tuple #[.string t92, .int .i64 t921]) ∧
 br (t92.toList == name.toList) (
 R (.bool false) w12) (
 Nx0 (IntKind.wrap .i64 (k + 1)) w12))) (
 R (.bool (t74 == 0)) w11)

def purlinlaw21_CallNames.K0 (name : ByteArray) (R : Value → World → Prop) (t17 : ByteArray) (t21 : ByteArray) (w4 : World) : Prop :=
 br (decide ((name.size : Int) > 1000)) (
 Calls Tryd.prog 12 #[] w4 (fun e w8 => ∃ t611 : Bool, e = .returned (.bool t611) ∧
 br t611 (
 br (t21.toList == t17.toList) (
 R (.bool (decide ((name.size : Int) > 1000))) w8) (
 R (.bool false) w8)) (
 R (.bool false) w8))) (
 Calls Tryd.prog 11 #[.string name] w4 (fun e w9 => ∃ t74 : Int, ∃ t741 : Bool, e = .returned (.tuple #[.int .i64 t74, .bool t741]) ∧
 br t741 (
 Calls Tryd.prog 10 #[.int .i64 t74] w9 (fun e w10 => ∃ t79 : ByteArray, e = .returned (.string t79) ∧
 br (t79.toList == name.toList) (
 R (.bool (!(name.toList == (⟨#[]⟩ : ByteArray).toList))) w10) (
 R (.bool false) w10))) (
 ∃ I : Nat → Int → World → Prop, (∃ n, I n 1 w9) ∧ ∀ (n9 : Nat) (dead : Nat → Value) (w11 : World) (k : Int), I n9 k w11 →
 purlinlaw21_CallNames.L0 name R t74 k w11 (fun x0 w9 => ∃ m, m < n9 ∧ I m x0 w9))))

def purlinlaw21_CallNames.F (op : Int) (name : ByteArray) (w : World) (R : Value → World → Prop) : Prop :=
 Calls Tryd.prog 9 #[.int .i64 op] w (fun e w1 => ∃ t17 : ByteArray, ∃ t171 : Int, e = .returned (.tuple #[.string t17, .int .i64 t171]) ∧
 Calls Tryd.prog 10 #[.int .i64 op] w1 (fun e w2 => ∃ t21 : ByteArray, e = .returned (.string t21) ∧
 Calls Tryd.prog 11 #[.string t21] w2 (fun e w3 => ∃ t24 : Int, ∃ t241 : Bool, e = .returned (.tuple #[.int .i64 t24, .bool t241]) ∧
 Calls Tryd.prog 12 #[] w3 (fun e w4 => ∃ t27 : Bool, e = .returned (.bool t27) ∧
 br (!t27) (
 Calls Tryd.prog 12 #[] w4 (fun e w5 => ∃ t61 : Bool, e = .returned (.bool t61) ∧
 br t61 (
 br (t21.toList == t17.toList) (
 R (.bool (decide ((name.size : Int) > 1000))) w5) (
 R (.bool false) w5)) (
 R (.bool false) w5))) (
 br (!(t21.toList == t17.toList)) (
 Calls Tryd.prog 12 #[] w4 (fun e w5 => ∃ t61 : Bool, e = .returned (.bool t61) ∧
 br t61 (
 br (t21.toList == t17.toList) (
 R (.bool (decide ((name.size : Int) > 1000))) w5) (
 R (.bool false) w5)) (
 R (.bool false) w5))) (
 br (!(t241 == (!(t21.toList == (⟨#[]⟩ : ByteArray).toList)))) (
 Calls Tryd.prog 12 #[] w4 (fun e w5 => ∃ t61 : Bool, e = .returned (.bool t61) ∧
 br t61 (
 br (t21.toList == t17.toList) (
 R (.bool (decide ((name.size : Int) > 1000))) w5) (
 R (.bool false) w5)) (
 R (.bool false) w5))) (
 br t241 (
 br (t24 != op) (
 Calls Tryd.prog 12 #[] w4 (fun e w5 => ∃ t61 : Bool, e = .returned (.bool t61) ∧
 br t61 (
 br (t21.toList == t17.toList) (
 R (.bool (decide ((name.size : Int) > 1000))) w5) (
 R (.bool false) w5)) (
 R (.bool false) w5))) (
 br (!t241) (
 br (t24 != 0) (
 Calls Tryd.prog 12 #[] w4 (fun e w5 => ∃ t61 : Bool, e = .returned (.bool t61) ∧
 br t61 (
 br (t21.toList == t17.toList) (
 R (.bool (decide ((name.size : Int) > 1000))) w5) (
 R (.bool false) w5)) (
 R (.bool false) w5))) (
 purlinlaw21_CallNames.K0 name R t17 t21 w4)) (
 purlinlaw21_CallNames.K0 name R t17 t21 w4))) (
 br (!t241) (
 br (t24 != 0) (
 Calls Tryd.prog 12 #[] w4 (fun e w5 => ∃ t61 : Bool, e = .returned (.bool t61) ∧
 br t61 (
 br (t21.toList == t17.toList) (
 R (.bool (decide ((name.size : Int) > 1000))) w5) (
 R (.bool false) w5)) (
 R (.bool false) w5))) (
 purlinlaw21_CallNames.K0 name R t17 t21 w4)) (
 purlinlaw21_CallNames.K0 name R t17 t21 w4)))))))))

theorem purlinlaw21_CallNames.vc (op : Int) (name : ByteArray) (w : World) (R : Value → World → Prop) : fnVC Tryd.prog purlinlaw21_CallNames.A Tryd.f3 [.int .i64 op, .string name] w R = purlinlaw21_CallNames.F op name w R := by kernel_rfl
theorem purlinlaw21_CallNames.calls (op : Int) (name : ByteArray) (w : World) (R : Value → World → Prop) (h : purlinlaw21_CallNames.F op name w R) : Calls Tryd.prog 3 #[.int .i64 op, .string name] w (Ret R) :=
  calls_of_vc mixed Tryd.func3 (Eq.mpr (purlinlaw21_CallNames.vc op name w R) h)

end Go.Proofs.YtmihgfhpmnomoaaDoor
