/- Printed by vcgen.py: of each function of this text its weakest precondition as a formula, and that it is one. Conditions: none. -/
import Derived.Test.YtmihgfhpmnomoaaDoorVcCode
import Derived.Test.YtmihgfhpmnomoaaDoorVcMem
import Derived.Test.YtmihgfhpmnomoaaDoorChecked
namespace Go.Proofs.YtmihgfhpmnomoaaDoor
open Go.Vc
set_option linter.unusedVariables false
set_option maxRecDepth 100000

/-! ### purlin/call.Name: function 10 -/
def call_Name.A : Ann where
  sched := fun i => match i with
    | _ => none
  loop := fun i => match i with
    | _ => none

def call_Name.F (op : Int) (w : World) (R : Value → World → Prop) : Prop :=
 br (decide (op < 1)) (
 R (.string (⟨#[]⟩ : ByteArray)) w) (
 br (decide (op > 30)) (
 R (.string (⟨#[]⟩ : ByteArray)) w) (
 0 ≤ (op : Int) ∧ op < (31 : Int) ∧ ∃ t11 : ByteArray, (#[.string (⟨#[]⟩ : ByteArray), .string (⟨#[115, 101, 109, 119, 97, 105, 116]⟩ : ByteArray), .string (⟨#[115, 101, 109, 115, 105, 103, 110, 97, 108]⟩ : ByteArray), .string (⟨#[115, 101, 109, 99, 111, 117, 110, 116]⟩ : ByteArray), .string (⟨#[101, 118, 101, 110, 116, 119, 97, 105, 116]⟩ : ByteArray), .string (⟨#[101, 118, 101, 110, 116, 115, 101, 116]⟩ : ByteArray), .string (⟨#[101, 118, 101, 110, 116, 114, 101, 115, 101, 116]⟩ : ByteArray), .string (⟨#[101, 118, 101, 110, 116, 117, 112]⟩ : ByteArray), .string (⟨#[115, 108, 101, 101, 112]⟩ : ByteArray), .string (⟨#[121, 105, 101, 108, 100]⟩ : ByteArray), .string (⟨#[115, 116, 97, 114, 116]⟩ : ByteArray), .string (⟨#[115, 116, 111, 112]⟩ : ByteArray), .string (⟨#[115, 117, 115, 112, 101, 110, 100]⟩ : ByteArray), .string (⟨#[114, 101, 115, 117, 109, 101]⟩ : ByteArray), .string (⟨#[114, 97, 105, 115, 101]⟩ : ByteArray), .string (⟨#[115, 116, 97, 116, 117, 115]⟩ : ByteArray), .string (⟨#[115, 101, 108, 102]⟩ : ByteArray), .string (⟨#[110, 111, 119]⟩ : ByteArray), .string (⟨#[101, 120, 105, 116]⟩ : ByteArray), .string (⟨#[109, 111, 100, 101]⟩ : ByteArray), .string (⟨#[114, 101, 115, 116, 97, 114, 116]⟩ : ByteArray), .string (⟨#[105, 100, 108, 101]⟩ : ByteArray), .string (⟨#[102, 97, 117, 108, 116]⟩ : ByteArray), .string (⟨#[115, 101, 110, 100]⟩ : ByteArray), .string (⟨#[114, 101, 99, 101, 105, 118, 101]⟩ : ByteArray), .string (⟨#[119, 114, 105, 116, 101]⟩ : ByteArray), .string (⟨#[114, 101, 97, 100]⟩ : ByteArray), .string (⟨#[112, 111, 114, 116, 108, 101, 110]⟩ : ByteArray), .string (⟨#[112, 111, 114, 116, 114, 111, 111, 109]⟩ : ByteArray), .string (⟨#[108, 111, 103, 108, 101, 110]⟩ : ByteArray), .string (⟨#[108, 111, 103, 101, 110, 116, 114, 121]⟩ : ByteArray)] : Array Value)[op.toNat]? = some (.string t11) ∧
 R (.string t11) w))

theorem call_Name.vc (op : Int) (w : World) (R : Value → World → Prop) : fnVC Tryd.prog call_Name.A Tryd.f10 [.int .i64 op] w R = call_Name.F op w R := by kernel_rfl
theorem call_Name.calls (op : Int) (w : World) (R : Value → World → Prop) (h : call_Name.F op w R) : Calls Tryd.prog 10 #[.int .i64 op] w (Ret R) :=
  calls_of_vc mixed Tryd.func10 (Eq.mpr (call_Name.vc op w R) h)

/-! ### purlin/call.Number: function 11 -/
def call_Number.A : Ann where
  sched := fun i => match i with
    | _ => none
  loop := fun i => match i with
    | 2 => some [(2, none), (3, none), (4, some (.one (.int .i64))), (5, none), (6, none), (7, none), (8, none), (9, none), (10, none), (11, none), (12, none), (13, none)]
    | _ => none

def call_Number.L0 (name : ByteArray) (R : Value → World → Prop) (op : Int) (w1 : World) (Nx0 : Int → World → Prop) : Prop :=
 br (decide (op ≤ 30)) (
 Calls Tryd.prog 10 #[.int .i64 op] w1 (fun e w2 => ∃ t10 : ByteArray, e = .returned (.string t10) ∧
 br (t10.toList == name.toList) (
 R (.tuple #[.int .i64 op, .bool true]) w2) (
 Nx0 (IntKind.wrap .i64 (op + 1)) w2))) (
 R (.tuple #[.int .i64 0, .bool false]) w1)

def call_Number.F (name : ByteArray) (w : World) (R : Value → World → Prop) : Prop :=
 ∃ I : Nat → Int → World → Prop, (∃ n, I n 1 w) ∧ ∀ (n9 : Nat) (dead : Nat → Value) (w1 : World) (op : Int), I n9 op w1 →
 call_Number.L0 name R op w1 (fun x0 w9 => ∃ m, m < n9 ∧ I m x0 w9)

theorem call_Number.vc (name : ByteArray) (w : World) (R : Value → World → Prop) : fnVC Tryd.prog call_Number.A Tryd.f11 [.string name] w R = call_Number.F name w R := by kernel_rfl
theorem call_Number.calls (name : ByteArray) (w : World) (R : Value → World → Prop) (h : call_Number.F name w R) : Calls Tryd.prog 11 #[.string name] w (Ret R) :=
  calls_of_vc mixed Tryd.func11 (Eq.mpr (call_Number.vc name w R) h)

/-! ### purlin/call.fields: function 21 -/
def call_fields.A : Ann where
  sched := fun i => match i with
    | _ => none
  loop := fun i => match i with
    | _ => none

def call_fields.K0 (R : Value → World → Prop) (b : Nat) (t13 : Bool) (w6 : World) : Prop :=
 br t13 (
 ∃ t22 : Bool, w6.cell? ⟨2, 0, none⟩ = some (.bool t22) ∧ ∃ t221 : Bool, w6.cell? ⟨2, 1, none⟩ = some (.bool t221) ∧ ∃ t222 : Bool, w6.cell? ⟨2, 2, none⟩ = some (.bool t222) ∧ 
 storeC w6 b 0 [.bool t22, .bool t221, .bool t222] fun w7 =>
 ∃ r6 : Bool, w7.cell? ⟨b, 0, none⟩ = some (.bool r6) ∧ ∃ r7 : Bool, w7.cell? ⟨b, 1, none⟩ = some (.bool r7) ∧ ∃ r8 : Bool, w7.cell? ⟨b, 2, none⟩ = some (.bool r8) ∧ 
 R (.agg #[.bool r6, .bool r7, .bool r8]) w7) (
 ∃ t23 : Bool, w6.cell? ⟨3, 0, none⟩ = some (.bool t23) ∧ ∃ t231 : Bool, w6.cell? ⟨3, 1, none⟩ = some (.bool t231) ∧ ∃ t232 : Bool, w6.cell? ⟨3, 2, none⟩ = some (.bool t232) ∧ 
 storeC w6 b 0 [.bool t23, .bool t231, .bool t232] fun w8 =>
 ∃ r9 : Bool, w8.cell? ⟨b, 0, none⟩ = some (.bool r9) ∧ ∃ r10 : Bool, w8.cell? ⟨b, 1, none⟩ = some (.bool r10) ∧ ∃ r11 : Bool, w8.cell? ⟨b, 2, none⟩ = some (.bool r11) ∧ 
 R (.agg #[.bool r9, .bool r10, .bool r11]) w8)

def call_fields.K1 (op : Int) (R : Value → World → Prop) (b : Nat) (t9 : Bool) (w4 : World) : Prop :=
 br t9 (
 ∃ t12 : Bool, w4.cell? ⟨1, 0, none⟩ = some (.bool t12) ∧ ∃ t121 : Bool, w4.cell? ⟨1, 1, none⟩ = some (.bool t121) ∧ ∃ t122 : Bool, w4.cell? ⟨1, 2, none⟩ = some (.bool t122) ∧ 
 storeC w4 b 0 [.bool t12, .bool t121, .bool t122] fun w5 =>
 ∃ r3 : Bool, w5.cell? ⟨b, 0, none⟩ = some (.bool r3) ∧ ∃ r4 : Bool, w5.cell? ⟨b, 1, none⟩ = some (.bool r4) ∧ ∃ r5 : Bool, w5.cell? ⟨b, 2, none⟩ = some (.bool r5) ∧ 
 R (.agg #[.bool r3, .bool r4, .bool r5]) w5) (
 br (op == 9) (
 call_fields.K0 R b (op == 9) w4) (
 br (op == 16) (
 call_fields.K0 R b (op == 16) w4) (
 br (op == 17) (
 call_fields.K0 R b (op == 17) w4) (
 br (op == 18) (
 call_fields.K0 R b (op == 18) w4) (
 br (op == 19) (
 call_fields.K0 R b (op == 19) w4) (
 br (op == 20) (
 call_fields.K0 R b (op == 20) w4) (
 br (op == 21) (
 call_fields.K0 R b (op == 21) w4) (
 call_fields.K0 R b (op == 29) w4))))))))

def call_fields.K2 (op : Int) (R : Value → World → Prop) (b : Nat) (t4 : Bool) (w2 : World) : Prop :=
 br t4 (
 ∃ t8 : Bool, w2.cell? ⟨0, 0, none⟩ = some (.bool t8) ∧ ∃ t81 : Bool, w2.cell? ⟨0, 1, none⟩ = some (.bool t81) ∧ ∃ t82 : Bool, w2.cell? ⟨0, 2, none⟩ = some (.bool t82) ∧ 
 storeC w2 b 0 [.bool t8, .bool t81, .bool t82] fun w3 =>
 ∃ r : Bool, w3.cell? ⟨b, 0, none⟩ = some (.bool r) ∧ ∃ r1 : Bool, w3.cell? ⟨b, 1, none⟩ = some (.bool r1) ∧ ∃ r2 : Bool, w3.cell? ⟨b, 2, none⟩ = some (.bool r2) ∧ 
 R (.agg #[.bool r, .bool r1, .bool r2]) w3) (
 br (op == 23) (
 call_fields.K1 op R b (op == 23) w2) (
 call_fields.K1 op R b (op == 25) w2))

def call_fields.F (op : Int) (w : World) (R : Value → World → Prop) : Prop :=
 newBlk w (.cells #[.bool false, .bool false, .bool false] 53 (0, 0)) fun b w1 =>
 br (op == 1) (
 call_fields.K2 op R b (op == 1) w1) (
 br (op == 4) (
 call_fields.K2 op R b (op == 4) w1) (
 call_fields.K2 op R b (op == 14) w1))

theorem call_fields.vc (op : Int) (w : World) (R : Value → World → Prop) : fnVC Tryd.prog call_fields.A Tryd.f21 [.int .i64 op] w R = call_fields.F op w R := by kernel_rfl
theorem call_fields.calls (op : Int) (w : World) (R : Value → World → Prop) (h : call_fields.F op w R) : Calls Tryd.prog 21 #[.int .i64 op] w (Ret R) :=
  calls_of_vc mixed Tryd.func21 (Eq.mpr (call_fields.vc op w R) h)

/-! ### purlin/call.right: function 20 -/
def call_right.A : Ann where
  sched := fun i => match i with
    | _ => none
  loop := fun i => match i with
    | _ => none

def call_right.F (x : Int) (x1 : Int) (x2 : Int) (x3 : ByteArray) (w : World) (R : Value → World → Prop) : Prop :=
 newBlk w (.cells #[.int .i64 x, .int .i64 x1, .int .i64 x2, .string x3] 30 (0, 0)) fun b w1 =>
 ∃ t5 : Int, w1.cell? ⟨b, 0, none⟩ = some (.int .i64 t5) ∧
 Calls Tryd.prog 21 #[.int .i64 t5] w1 (fun e w2 => ∃ t6 : Bool, ∃ t61 : Bool, ∃ t62 : Bool, e = .returned (.agg #[.bool t6, .bool t61, .bool t62]) ∧
 newBlk w2 (.cells #[.bool false, .bool false, .bool false] 53 (0, 0)) fun b1 w3 =>
 storeC w3 b1 0 [.bool t6, .bool t61, .bool t62] fun w4 =>
 ∃ t9 : Int, w4.cell? ⟨b, 0, none⟩ = some (.int .i64 t9) ∧
 Calls Tryd.prog 10 #[.int .i64 t9] w4 (fun e w5 => ∃ t10 : ByteArray, e = .returned (.string t10) ∧
 br (t10.toList == (⟨#[]⟩ : ByteArray).toList) (
 R (.int .i64 211) w5) (
 0 ≤ (0 : Int) ∧ 0 < (3 : Int) ∧ ∃ t14 : Bool, w5.cell? ⟨b1, 0, none⟩ = some (.bool t14) ∧
 br (!t14) (
 ∃ t18 : Int, w5.cell? ⟨b, 1, none⟩ = some (.int .i64 t18) ∧
 br (t18 != 0) (
 R (.int .i64 220) w5) (
 0 ≤ (1 : Int) ∧ 1 < (3 : Int) ∧ ∃ t23 : Bool, w5.cell? ⟨b1, 1, none⟩ = some (.bool t23) ∧
 br (!t23) (
 ∃ t27 : Int, w5.cell? ⟨b, 2, none⟩ = some (.int .i64 t27) ∧
 br (t27 != 0) (
 R (.int .i64 220) w5) (
 0 ≤ (2 : Int) ∧ 2 < (3 : Int) ∧ ∃ t33 : Bool, w5.cell? ⟨b1, 2, none⟩ = some (.bool t33) ∧
 br (!t33) (
 ∃ t37 : ByteArray, w5.cell? ⟨b, 3, none⟩ = some (.string t37) ∧
 br (!(t37.toList == (⟨#[]⟩ : ByteArray).toList)) (
 R (.int .i64 220) w5) (
 R (.int .i64 0) w5)) (
 R (.int .i64 0) w5))) (
 0 ≤ (2 : Int) ∧ 2 < (3 : Int) ∧ ∃ t331 : Bool, w5.cell? ⟨b1, 2, none⟩ = some (.bool t331) ∧
 br (!t331) (
 ∃ t371 : ByteArray, w5.cell? ⟨b, 3, none⟩ = some (.string t371) ∧
 br (!(t371.toList == (⟨#[]⟩ : ByteArray).toList)) (
 R (.int .i64 220) w5) (
 R (.int .i64 0) w5)) (
 R (.int .i64 0) w5)))) (
 0 ≤ (1 : Int) ∧ 1 < (3 : Int) ∧ ∃ t231 : Bool, w5.cell? ⟨b1, 1, none⟩ = some (.bool t231) ∧
 br (!t231) (
 ∃ t271 : Int, w5.cell? ⟨b, 2, none⟩ = some (.int .i64 t271) ∧
 br (t271 != 0) (
 R (.int .i64 220) w5) (
 0 ≤ (2 : Int) ∧ 2 < (3 : Int) ∧ ∃ t332 : Bool, w5.cell? ⟨b1, 2, none⟩ = some (.bool t332) ∧
 br (!t332) (
 ∃ t372 : ByteArray, w5.cell? ⟨b, 3, none⟩ = some (.string t372) ∧
 br (!(t372.toList == (⟨#[]⟩ : ByteArray).toList)) (
 R (.int .i64 220) w5) (
 R (.int .i64 0) w5)) (
 R (.int .i64 0) w5))) (
 0 ≤ (2 : Int) ∧ 2 < (3 : Int) ∧ ∃ t333 : Bool, w5.cell? ⟨b1, 2, none⟩ = some (.bool t333) ∧
 br (!t333) (
 ∃ t373 : ByteArray, w5.cell? ⟨b, 3, none⟩ = some (.string t373) ∧
 br (!(t373.toList == (⟨#[]⟩ : ByteArray).toList)) (
 R (.int .i64 220) w5) (
 R (.int .i64 0) w5)) (
 R (.int .i64 0) w5))))))

theorem call_right.vc (x : Int) (x1 : Int) (x2 : Int) (x3 : ByteArray) (w : World) (R : Value → World → Prop) : fnVC Tryd.prog call_right.A Tryd.f20 [.agg #[.int .i64 x, .int .i64 x1, .int .i64 x2, .string x3]] w R = call_right.F x x1 x2 x3 w R := by kernel_rfl
theorem call_right.calls (x : Int) (x1 : Int) (x2 : Int) (x3 : ByteArray) (w : World) (R : Value → World → Prop) (h : call_right.F x x1 x2 x3 w R) : Calls Tryd.prog 20 #[.agg #[.int .i64 x, .int .i64 x1, .int .i64 x2, .string x3]] w (Ret R) :=
  calls_of_vc mixed Tryd.func20 (Eq.mpr (call_right.vc x x1 x2 x3 w R) h)

/-! ### purlin/call.Show: function 14 -/
def call_Show.A : Ann where
  sched := fun i => match i with
    | _ => none
  loop := fun i => match i with
    | _ => none

def call_Show.K0 (R : Value → World → Prop) (b : Nat) (b1 : Nat) (s1 : ByteArray) (w10 : World) : Prop :=
 0 ≤ (2 : Int) ∧ 2 < (3 : Int) ∧ ∃ t35 : Bool, w10.cell? ⟨b1, 2, none⟩ = some (.bool t35) ∧
 br t35 (
 ∃ t38 : ByteArray, w10.cell? ⟨b, 3, none⟩ = some (.string t38) ∧
 (((⟨#[32, 61]⟩ : ByteArray).size + t38.size : Nat) : Int) ≤ 9223372036854775807 ∧
 ((s1.size + ((⟨#[32, 61]⟩ : ByteArray) ++ t38).size : Nat) : Int) ≤ 9223372036854775807 ∧
 R (.tuple #[.string (s1 ++ ((⟨#[32, 61]⟩ : ByteArray) ++ t38)), .int .i64 0]) w10) (
 R (.tuple #[.string s1, .int .i64 0]) w10)

def call_Show.K1 (R : Value → World → Prop) (b : Nat) (b1 : Nat) (s : ByteArray) (w8 : World) : Prop :=
 0 ≤ (1 : Int) ∧ 1 < (3 : Int) ∧ ∃ t27 : Bool, w8.cell? ⟨b1, 1, none⟩ = some (.bool t27) ∧
 br t27 (
 ∃ t30 : Int, w8.cell? ⟨b, 2, none⟩ = some (.int .i64 t30) ∧
 Calls Tryd.prog 22 #[.int .i64 t30] w8 (fun e w9 => ∃ t31 : ByteArray, e = .returned (.string t31) ∧
 (((⟨#[32]⟩ : ByteArray).size + t31.size : Nat) : Int) ≤ 9223372036854775807 ∧
 ((s.size + ((⟨#[32]⟩ : ByteArray) ++ t31).size : Nat) : Int) ≤ 9223372036854775807 ∧
 call_Show.K0 R b b1 (s ++ ((⟨#[32]⟩ : ByteArray) ++ t31)) w9)) (
 call_Show.K0 R b b1 s w8)

def call_Show.F (x : Int) (x1 : Int) (x2 : Int) (x3 : ByteArray) (w : World) (R : Value → World → Prop) : Prop :=
 newBlk w (.cells #[.int .i64 x, .int .i64 x1, .int .i64 x2, .string x3] 30 (0, 0)) fun b w1 =>
 ∃ t7 : Int, w1.cell? ⟨b, 0, none⟩ = some (.int .i64 t7) ∧ ∃ t71 : Int, w1.cell? ⟨b, 1, none⟩ = some (.int .i64 t71) ∧ ∃ t72 : Int, w1.cell? ⟨b, 2, none⟩ = some (.int .i64 t72) ∧ ∃ t73 : ByteArray, w1.cell? ⟨b, 3, none⟩ = some (.string t73) ∧ 
 Calls Tryd.prog 20 #[.agg #[.int .i64 t7, .int .i64 t71, .int .i64 t72, .string t73]] w1 (fun e w2 => ∃ t8 : Int, e = .returned (.int .i64 t8) ∧
 br (t8 != 0) (
 R (.tuple #[.string (⟨#[]⟩ : ByteArray), .int .i64 t8]) w2) (
 ∃ t13 : Int, w2.cell? ⟨b, 0, none⟩ = some (.int .i64 t13) ∧
 Calls Tryd.prog 10 #[.int .i64 t13] w2 (fun e w3 => ∃ t14 : ByteArray, e = .returned (.string t14) ∧
 ∃ t16 : Int, w3.cell? ⟨b, 0, none⟩ = some (.int .i64 t16) ∧
 Calls Tryd.prog 21 #[.int .i64 t16] w3 (fun e w4 => ∃ t17 : Bool, ∃ t171 : Bool, ∃ t172 : Bool, e = .returned (.agg #[.bool t17, .bool t171, .bool t172]) ∧
 newBlk w4 (.cells #[.bool false, .bool false, .bool false] 53 (0, 0)) fun b1 w5 =>
 storeC w5 b1 0 [.bool t17, .bool t171, .bool t172] fun w6 =>
 0 ≤ (0 : Int) ∧ 0 < (3 : Int) ∧ ∃ t19 : Bool, w6.cell? ⟨b1, 0, none⟩ = some (.bool t19) ∧
 br t19 (
 ∃ t22 : Int, w6.cell? ⟨b, 1, none⟩ = some (.int .i64 t22) ∧
 Calls Tryd.prog 22 #[.int .i64 t22] w6 (fun e w7 => ∃ t23 : ByteArray, e = .returned (.string t23) ∧
 (((⟨#[32]⟩ : ByteArray).size + t23.size : Nat) : Int) ≤ 9223372036854775807 ∧
 ((t14.size + ((⟨#[32]⟩ : ByteArray) ++ t23).size : Nat) : Int) ≤ 9223372036854775807 ∧
 call_Show.K1 R b b1 (t14 ++ ((⟨#[32]⟩ : ByteArray) ++ t23)) w7)) (
 call_Show.K1 R b b1 t14 w6)))))

theorem call_Show.vc (x : Int) (x1 : Int) (x2 : Int) (x3 : ByteArray) (w : World) (R : Value → World → Prop) : fnVC Tryd.prog call_Show.A Tryd.f14 [.agg #[.int .i64 x, .int .i64 x1, .int .i64 x2, .string x3]] w R = call_Show.F x x1 x2 x3 w R := by kernel_rfl
theorem call_Show.calls (x : Int) (x1 : Int) (x2 : Int) (x3 : ByteArray) (w : World) (R : Value → World → Prop) (h : call_Show.F x x1 x2 x3 w R) : Calls Tryd.prog 14 #[.agg #[.int .i64 x, .int .i64 x1, .int .i64 x2, .string x3]] w (Ret R) :=
  calls_of_vc mixed Tryd.func14 (Eq.mpr (call_Show.vc x x1 x2 x3 w R) h)

/-! ### purlin/call.number: function 34 -/
def call_number.A : Ann where
  sched := fun i => match i with
    | 10 => some (none, .still 0 false 6 <| .still 1 false 9 <| .still 2 false 11 <| .still 3 false 7 <| .still 4 false 15 <| .done)
    | _ => none
  loop := fun i => match i with
    | 3 => some [(2, none), (3, none), (6, none), (13, none), (14, none), (15, none), (16, none), (17, none), (18, none), (19, none), (20, none), (21, none)]
    | _ => none

def call_number.K0 (s : ByteArray) (R : Value → World → Prop) (w4 : World) : Prop :=
 Calls Tryd.prog 40 #[.string s, .int .i64 10, .int .i64 64] w4 (fun e w5 => ∃ t35 : Int, ∃ t35V : Value, e = .returned (.tuple #[.int .i64 t35, t35V]) ∧
 drawC w5 fun w6 =>
 ∃ q : Bool, (eqRun .eql 72 (.tmp 39) (.const (.nilIface)) (t35V) (.nilIface)).run Tryd.prog w6 = .ok (.bool q) w6 ∧
 R (.tuple #[.int .i64 t35, .bool q]) w6)

def call_number.L0 (s : ByteArray) (R : Value → World → Prop) (t10 : ByteArray) (t12P : Option Addr) (w3 : World) (Nx0 : World → Prop) : Prop :=
 (∃ w4 : World, (Instr.next (.pointer t12P) true 0).run Tryd.prog w3 = .ok (.tuple #[.bool false]) w4 ∧
 br (t10.toList == (⟨#[]⟩ : ByteArray).toList) (
 R (.tuple #[.int .i64 0, .bool false]) w4) (
 0 ≤ (0 : Int) ∧ 0 < (t10.size : Int) ∧
 br ((((t10.data.getD (0 : Int).toNat 0).toNat : Nat) : Int) == 48) (
 br (!(s.toList == (⟨#[48]⟩ : ByteArray).toList)) (
 R (.tuple #[.int .i64 0, .bool false]) w4) (
 call_number.K0 s R w4)) (
 call_number.K0 s R w4))) ∨
 (∃ at1 : Int, ∃ rune : Int, ∃ w7 : World, (Instr.next (.pointer t12P) true 0).run Tryd.prog w3 = .ok (.tuple #[.bool true, .int .i64 at1, .int .i32 rune]) w7 ∧
 br (decide (rune < 48)) (
 R (.tuple #[.int .i64 0, .bool false]) w7) (
 br (decide (rune > 57)) (
 R (.tuple #[.int .i64 0, .bool false]) w7) (
 Nx0 w7)))

def call_number.F (s : ByteArray) (w : World) (R : Value → World → Prop) : Prop :=
 Calls Tryd.prog 39 #[.string s, .string (⟨#[45]⟩ : ByteArray)] w (fun e w1 => ∃ t10 : ByteArray, e = .returned (.string t10) ∧
 ∃ t12P : Option Addr, ∃ w2 : World, (Instr.range 9 (.string t10)).run Tryd.prog w1 = .ok (.pointer t12P) w2 ∧
 ∃ I : Nat → World → Prop, (∃ n, I n w2) ∧ ∀ (n9 : Nat) (dead : Nat → Value) (w3 : World), I n9 w3 →
 call_number.L0 s R t10 t12P w3 (fun w9 => ∃ m, m < n9 ∧ I m w9))

theorem call_number.vc (s : ByteArray) (w : World) (R : Value → World → Prop) : fnVC Tryd.prog call_number.A Tryd.f34 [.string s] w R = call_number.F s w R := by kernel_rfl
theorem call_number.calls (s : ByteArray) (w : World) (R : Value → World → Prop) (h : call_number.F s w R) : Calls Tryd.prog 34 #[.string s] w (Ret R) :=
  calls_of_vc mixed Tryd.func34 (Eq.mpr (call_number.vc s w R) h)

/-! ### purlin/call.next: function 26 -/
def call_next.A : Ann where
  sched := fun i => match i with
    | 8 => some (none, .still 0 false 30 <| .still 1 false 53 <| .still 2 false 51 <| .still 3 false 55 <| .still 4 false 111 <| .still 5 false 31 <| .still 6 false 63 <| .still 7 false 127 <| .done)
    | _ => none
  loop := fun i => match i with
    | _ => none

def call_next.K0 (R : Value → World → Prop) (t11 : ByteArray) (end1 : Int) (w3 : World) : Prop :=
 0 ≤ end1 ∧ end1 ≤ (t11.size : Int) ∧
 Calls Tryd.prog 34 #[.string (t11.extract 0 end1.toNat)] w3 (fun e w4 => ∃ t26 : Int, ∃ t261 : Bool, e = .returned (.tuple #[.int .i64 t26, .bool t261]) ∧
 drawC w4 fun w5 =>
 0 ≤ end1 ∧ end1 ≤ (t11.size : Int) ∧
 R (.tuple #[.int .i64 t26, .string (t11.extract end1.toNat t11.size), .bool t261]) w5)

def call_next.F (s : ByteArray) (w : World) (R : Value → World → Prop) : Prop :=
 Calls Tryd.prog 27 #[.string s, .string (⟨#[32]⟩ : ByteArray)] w (fun e w1 => ∃ t11 : ByteArray, ∃ t111 : Bool, e = .returned (.tuple #[.string t11, .bool t111]) ∧
 br (!t111) (
 R (.tuple #[.int .i64 0, .string (⟨#[]⟩ : ByteArray), .bool false]) w1) (
 Calls Tryd.prog 33 #[.string t11, .int .u8 32] w1 (fun e w2 => ∃ t17 : Int, e = .returned (.int .i64 t17) ∧
 br (decide (t17 < 0)) (
 call_next.K0 R t11 (t11.size : Int) w2) (
 call_next.K0 R t11 t17 w2))))

theorem call_next.vc (s : ByteArray) (w : World) (R : Value → World → Prop) : fnVC Tryd.prog call_next.A Tryd.f26 [.string s] w R = call_next.F s w R := by kernel_rfl
theorem call_next.calls (s : ByteArray) (w : World) (R : Value → World → Prop) (h : call_next.F s w R) : Calls Tryd.prog 26 #[.string s] w (Ret R) :=
  calls_of_vc mixed Tryd.func26 (Eq.mpr (call_next.vc s w R) h)

/-! ### purlin/call.Parse: function 16 -/
def call_Parse.A : Ann where
  sched := fun i => match i with
    | 5 => some ((some 0), .still 0 true 1020 <| .still 1 true 1021 <| .still 2 true 1011 <| .still 4 true 3951 <| .still 5 true 3871 <| .still 6 true 3903 <| .still 7 true 3967 <| .alt 3 (.alt 8 (.eff 9 <| .eff 10 <| .eff 11 <| .still 12 false 4095 <| .done) <| .eff 9 <| .eff 8 <| .eff 10 <| .eff 11 <| .still 12 false 4095 <| .done) <| .alt 8 (.alt 3 (.eff 9 <| .eff 10 <| .eff 11 <| .still 12 false 4095 <| .done) <| .eff 9 <| .eff 3 <| .eff 10 <| .eff 11 <| .still 12 false 4095 <| .done) <| .eff 9 <| .alt 3 (.eff 8 <| .eff 10 <| .eff 11 <| .still 12 false 4095 <| .done) <| .eff 8 <| .eff 3 <| .eff 10 <| .eff 11 <| .still 12 false 4095 <| .done)
    | _ => none
  loop := fun i => match i with
    | _ => none

def call_Parse.K0 (R : Value → World → Prop) (b : Nat) (w22 : World) : Prop :=
 ∃ r4 : Int, w22.cell? ⟨b, 0, none⟩ = some (.int .i64 r4) ∧ ∃ r5 : Int, w22.cell? ⟨b, 1, none⟩ = some (.int .i64 r5) ∧ ∃ r6 : Int, w22.cell? ⟨b, 2, none⟩ = some (.int .i64 r6) ∧ ∃ r7 : ByteArray, w22.cell? ⟨b, 3, none⟩ = some (.string r7) ∧ 
 R (.tuple #[.agg #[.int .i64 r4, .int .i64 r5, .int .i64 r6, .string r7], .int .i64 223]) w22

def call_Parse.K1 (R : Value → World → Prop) (b : Nat) (xB : Nat) (ok2 : Bool) (rest2 : ByteArray) (w20 : World) : Prop :=
 br (!ok2) (
 storeC w20 b 0 [.int .i64 0, .int .i64 0, .int .i64 0, .string (⟨#[]⟩ : ByteArray)] fun w21 =>
 call_Parse.K0 R b w21) (
 br (!(rest2.toList == (⟨#[]⟩ : ByteArray).toList)) (
 storeC w20 b 0 [.int .i64 0, .int .i64 0, .int .i64 0, .string (⟨#[]⟩ : ByteArray)] fun w23 =>
 call_Parse.K0 R b w23) (
 ∃ t76 : Int, w20.cell? ⟨xB, 0, none⟩ = some (.int .i64 t76) ∧ ∃ t761 : Int, w20.cell? ⟨xB, 1, none⟩ = some (.int .i64 t761) ∧ ∃ t762 : Int, w20.cell? ⟨xB, 2, none⟩ = some (.int .i64 t762) ∧ ∃ t763 : ByteArray, w20.cell? ⟨xB, 3, none⟩ = some (.string t763) ∧ 
 storeC w20 b 0 [.int .i64 t76, .int .i64 t761, .int .i64 t762, .string t763] fun w24 =>
 ∃ r8 : Int, w24.cell? ⟨b, 0, none⟩ = some (.int .i64 r8) ∧ ∃ r9 : Int, w24.cell? ⟨b, 1, none⟩ = some (.int .i64 r9) ∧ ∃ r10 : Int, w24.cell? ⟨b, 2, none⟩ = some (.int .i64 r10) ∧ ∃ r11 : ByteArray, w24.cell? ⟨b, 3, none⟩ = some (.string r11) ∧ 
 R (.tuple #[.agg #[.int .i64 r8, .int .i64 r9, .int .i64 r10, .string r11], .int .i64 0]) w24))

def call_Parse.K2 (R : Value → World → Prop) (b : Nat) (xB : Nat) (hB : Nat) (ok1 : Bool) (rest1 : ByteArray) (w17 : World) : Prop :=
 0 ≤ (2 : Int) ∧ 2 < (3 : Int) ∧ ∃ t59 : Bool, w17.cell? ⟨hB, 2, none⟩ = some (.bool t59) ∧
 br t59 (
 br ok1 (
 Calls Tryd.prog 27 #[.string rest1, .string (⟨#[32, 61]⟩ : ByteArray)] w17 (fun e w18 => ∃ t65 : ByteArray, ∃ t651 : Bool, e = .returned (.tuple #[.string t65, .bool t651]) ∧
 storeC w18 xB 3 [.string t65] fun w19 =>
 call_Parse.K1 R b xB t651 (⟨#[]⟩ : ByteArray) w19)) (
 call_Parse.K1 R b xB ok1 rest1 w17)) (
 call_Parse.K1 R b xB ok1 rest1 w17)

def call_Parse.K3 (R : Value → World → Prop) (b : Nat) (xB : Nat) (hB : Nat) (ok : Bool) (rest : ByteArray) (w14 : World) : Prop :=
 0 ≤ (1 : Int) ∧ 1 < (3 : Int) ∧ ∃ t47 : Bool, w14.cell? ⟨hB, 1, none⟩ = some (.bool t47) ∧
 br t47 (
 br ok (
 Calls Tryd.prog 26 #[.string rest] w14 (fun e w15 => ∃ t53 : Int, ∃ t531 : ByteArray, ∃ t532 : Bool, e = .returned (.tuple #[.int .i64 t53, .string t531, .bool t532]) ∧
 storeC w15 xB 2 [.int .i64 t53] fun w16 =>
 call_Parse.K2 R b xB hB t532 t531 w16)) (
 call_Parse.K2 R b xB hB ok rest w14)) (
 call_Parse.K2 R b xB hB ok rest w14)

def call_Parse.K4 (text : ByteArray) (R : Value → World → Prop) (b : Nat) (t14 : ByteArray) (t201 : Bool) (xB : Nat) (hB : Nat) (w11 : World) : Prop :=
 0 ≤ (0 : Int) ∧ 0 < (3 : Int) ∧ ∃ t35 : Bool, w11.cell? ⟨hB, 0, none⟩ = some (.bool t35) ∧
 br t35 (
 br t201 (
 Calls Tryd.prog 26 #[.string (text.extract (t14.size : Int).toNat text.size)] w11 (fun e w12 => ∃ t41 : Int, ∃ t411 : ByteArray, ∃ t412 : Bool, e = .returned (.tuple #[.int .i64 t41, .string t411, .bool t412]) ∧
 storeC w12 xB 1 [.int .i64 t41] fun w13 =>
 call_Parse.K3 R b xB hB t412 t411 w13)) (
 call_Parse.K3 R b xB hB t201 (text.extract (t14.size : Int).toNat text.size) w11)) (
 call_Parse.K3 R b xB hB t201 (text.extract (t14.size : Int).toNat text.size) w11)

def call_Parse.F (text : ByteArray) (w : World) (R : Value → World → Prop) : Prop :=
 newBlk w (.cells #[.int .i64 0, .int .i64 0, .int .i64 0, .string (⟨#[]⟩ : ByteArray)] 30 (0, 0)) fun b w1 =>
 Calls Tryd.prog 25 #[.string text, .string (⟨#[32]⟩ : ByteArray)] w1 (fun e w2 => ∃ t14 : ByteArray, ∃ t141 : ByteArray, ∃ t142 : Bool, e = .returned (.tuple #[.string t14, .string t141, .bool t142]) ∧
 Calls Tryd.prog 11 #[.string t14] w2 (fun e w3 => ∃ t20 : Int, ∃ t201 : Bool, e = .returned (.tuple #[.int .i64 t20, .bool t201]) ∧
 br (!t201) (
 storeC w3 b 0 [.int .i64 0, .int .i64 0, .int .i64 0, .string (⟨#[]⟩ : ByteArray)] fun w4 =>
 ∃ r : Int, w4.cell? ⟨b, 0, none⟩ = some (.int .i64 r) ∧ ∃ r1 : Int, w4.cell? ⟨b, 1, none⟩ = some (.int .i64 r1) ∧ ∃ r2 : Int, w4.cell? ⟨b, 2, none⟩ = some (.int .i64 r2) ∧ ∃ r3 : ByteArray, w4.cell? ⟨b, 3, none⟩ = some (.string r3) ∧ 
 R (.tuple #[.agg #[.int .i64 r, .int .i64 r1, .int .i64 r2, .string r3], .int .i64 223]) w4) (
 ∃ S : World → Prop, S w3.drew ∧ drawC w3 fun w5 =>
 0 ≤ (t14.size : Int) ∧ (t14.size : Int) ≤ (text.size : Int) ∧
 (Calls Tryd.prog 21 #[.int .i64 t20] w5 (fun e w6 => ∃ t29 : Bool, ∃ t291 : Bool, ∃ t292 : Bool, e = .returned (.agg #[.bool t29, .bool t291, .bool t292]) ∧
 S w6 ∧ (newBlk w6 (.cells #[.int .i64 0, .int .i64 0, .int .i64 0, .string (⟨#[]⟩ : ByteArray)] 30 (0, 0)) fun b1 w7 =>
 S w7 ∧ newBlk w7 (.cells #[.bool false, .bool false, .bool false] 53 (0, 0)) fun b2 w8 =>
 S w8 ∧ storeC w8 b1 0 [.int .i64 t20, .int .i64 0, .int .i64 0, .string (⟨#[]⟩ : ByteArray)] fun w9 =>
 S w9 ∧ storeC w9 b2 0 [.bool t29, .bool t291, .bool t292] fun w10 =>
 S w10 ∧ call_Parse.K4 text R b t14 t201 b1 b2 w10) ∧
 (newBlk w6 (.cells #[.bool false, .bool false, .bool false] 53 (0, 0)) fun b3 w25 =>
 S w25 ∧ newBlk w25 (.cells #[.int .i64 0, .int .i64 0, .int .i64 0, .string (⟨#[]⟩ : ByteArray)] 30 (0, 0)) fun b4 w26 =>
 S w26 ∧ storeC w26 b4 0 [.int .i64 t20, .int .i64 0, .int .i64 0, .string (⟨#[]⟩ : ByteArray)] fun w27 =>
 S w27 ∧ storeC w27 b3 0 [.bool t29, .bool t291, .bool t292] fun w28 =>
 S w28 ∧ call_Parse.K4 text R b t14 t201 b4 b3 w28))) ∧
 ((newBlk w5 (.cells #[.int .i64 0, .int .i64 0, .int .i64 0, .string (⟨#[]⟩ : ByteArray)] 30 (0, 0)) fun b5 w29 =>
 S w29 ∧ (Calls Tryd.prog 21 #[.int .i64 t20] w29 (fun e w30 => ∃ t293 : Bool, ∃ t294 : Bool, ∃ t295 : Bool, e = .returned (.agg #[.bool t293, .bool t294, .bool t295]) ∧
 S w30 ∧ newBlk w30 (.cells #[.bool false, .bool false, .bool false] 53 (0, 0)) fun b6 w31 =>
 S w31 ∧ storeC w31 b5 0 [.int .i64 t20, .int .i64 0, .int .i64 0, .string (⟨#[]⟩ : ByteArray)] fun w32 =>
 S w32 ∧ storeC w32 b6 0 [.bool t293, .bool t294, .bool t295] fun w33 =>
 S w33 ∧ call_Parse.K4 text R b t14 t201 b5 b6 w33)) ∧
 (newBlk w29 (.cells #[.bool false, .bool false, .bool false] 53 (0, 0)) fun b7 w34 =>
 S w34 ∧ Calls Tryd.prog 21 #[.int .i64 t20] w34 (fun e w35 => ∃ t296 : Bool, ∃ t297 : Bool, ∃ t298 : Bool, e = .returned (.agg #[.bool t296, .bool t297, .bool t298]) ∧
 S w35 ∧ storeC w35 b5 0 [.int .i64 t20, .int .i64 0, .int .i64 0, .string (⟨#[]⟩ : ByteArray)] fun w36 =>
 S w36 ∧ storeC w36 b7 0 [.bool t296, .bool t297, .bool t298] fun w37 =>
 S w37 ∧ call_Parse.K4 text R b t14 t201 b5 b7 w37))) ∧
 (newBlk w5 (.cells #[.bool false, .bool false, .bool false] 53 (0, 0)) fun b8 w38 =>
 S w38 ∧ (Calls Tryd.prog 21 #[.int .i64 t20] w38 (fun e w39 => ∃ t299 : Bool, ∃ t2910 : Bool, ∃ t2911 : Bool, e = .returned (.agg #[.bool t299, .bool t2910, .bool t2911]) ∧
 S w39 ∧ newBlk w39 (.cells #[.int .i64 0, .int .i64 0, .int .i64 0, .string (⟨#[]⟩ : ByteArray)] 30 (0, 0)) fun b9 w40 =>
 S w40 ∧ storeC w40 b9 0 [.int .i64 t20, .int .i64 0, .int .i64 0, .string (⟨#[]⟩ : ByteArray)] fun w41 =>
 S w41 ∧ storeC w41 b8 0 [.bool t299, .bool t2910, .bool t2911] fun w42 =>
 S w42 ∧ call_Parse.K4 text R b t14 t201 b9 b8 w42)) ∧
 (newBlk w38 (.cells #[.int .i64 0, .int .i64 0, .int .i64 0, .string (⟨#[]⟩ : ByteArray)] 30 (0, 0)) fun b10 w43 =>
 S w43 ∧ Calls Tryd.prog 21 #[.int .i64 t20] w43 (fun e w44 => ∃ t2912 : Bool, ∃ t2913 : Bool, ∃ t2914 : Bool, e = .returned (.agg #[.bool t2912, .bool t2913, .bool t2914]) ∧
 S w44 ∧ storeC w44 b10 0 [.int .i64 t20, .int .i64 0, .int .i64 0, .string (⟨#[]⟩ : ByteArray)] fun w45 =>
 S w45 ∧ storeC w45 b8 0 [.bool t2912, .bool t2913, .bool t2914] fun w46 =>
 S w46 ∧ call_Parse.K4 text R b t14 t201 b10 b8 w46)))))))

theorem call_Parse.vc (text : ByteArray) (w : World) (R : Value → World → Prop) : fnVC Tryd.prog call_Parse.A Tryd.f16 [.string text] w R = call_Parse.F text w R := by kernel_rfl
theorem call_Parse.calls (text : ByteArray) (w : World) (R : Value → World → Prop) (h : call_Parse.F text w R) : Calls Tryd.prog 16 #[.string text] w (Ret R) :=
  calls_of_vc mixed Tryd.func16 (Eq.mpr (call_Parse.vc text w R) h)

/-! ### purlin/call.channel: function 30 -/
def call_channel.A : Ann where
  sched := fun i => match i with
    | 1 => some (none, .still 0 false 1000 <| .still 1 false 1001 <| .still 2 false 1003 <| .still 3 false 999 <| .still 4 false 1007 <| .still 5 false 1311 <| .still 6 false 1343 <| .still 7 false 1407 <| .still 8 false 1279 <| .still 9 false 1535 <| .still 10 false 1023 <| .still 11 false 2047 <| .done)
    | 2 => some (none, .still 0 false 56 <| .still 1 false 57 <| .still 2 false 59 <| .still 3 false 71 <| .still 4 false 79 <| .still 5 false 95 <| .still 6 false 63 <| .still 7 false 127 <| .done)
    | _ => none
  loop := fun i => match i with
    | _ => none

def call_channel.K0 (part : Int) (R : Value → World → Prop) (t12 : Int) (t17 : Int) (w4 : World) : Prop :=
 br (!(IntKind.wrap .i64 t17 == part)) (
 br (!(IntKind.wrap .i64 t17 == part)) (
 R (.int .i64 222) w4) (
 R (.int .i64 0) w4)) (
 br (!(IntKind.wrap .i64 t12 == part)) (
 br (!(IntKind.wrap .i64 t17 == part)) (
 R (.int .i64 222) w4) (
 R (.int .i64 0) w4)) (
 R (.int .i64 0) w4))

def call_channel.K1 (part : Int) (op : Int) (R : Value → World → Prop) (t12 : Int) (t17 : Int) (w4 : World) : Prop :=
 br (!(IntKind.wrap .i64 t12 == part)) (
 br (!(IntKind.wrap .i64 t12 == part)) (
 R (.int .i64 222) w4) (
 R (.int .i64 0) w4)) (
 br (op == 24) (
 call_channel.K0 part R t12 t17 w4) (
 br (op == 26) (
 call_channel.K0 part R t12 t17 w4) (
 br (!(IntKind.wrap .i64 t12 == part)) (
 br (!(IntKind.wrap .i64 t17 == part)) (
 R (.int .i64 222) w4) (
 R (.int .i64 0) w4)) (
 R (.int .i64 0) w4))))

def call_channel.K2 (part : Int) (R : Value → World → Prop) (t12 : Int) (t17 : Int) (w5 : World) : Prop :=
 br (!(IntKind.wrap .i64 t17 == part)) (
 br (!(IntKind.wrap .i64 t17 == part)) (
 R (.int .i64 222) w5) (
 R (.int .i64 0) w5)) (
 br (!(IntKind.wrap .i64 t12 == part)) (
 br (!(IntKind.wrap .i64 t17 == part)) (
 R (.int .i64 222) w5) (
 R (.int .i64 0) w5)) (
 R (.int .i64 0) w5))

def call_channel.K3 (part : Int) (op : Int) (R : Value → World → Prop) (t12 : Int) (t17 : Int) (w5 : World) : Prop :=
 br (!(IntKind.wrap .i64 t12 == part)) (
 br (!(IntKind.wrap .i64 t12 == part)) (
 R (.int .i64 222) w5) (
 R (.int .i64 0) w5)) (
 br (op == 24) (
 call_channel.K2 part R t12 t17 w5) (
 br (op == 26) (
 call_channel.K2 part R t12 t17 w5) (
 br (!(IntKind.wrap .i64 t12 == part)) (
 br (!(IntKind.wrap .i64 t17 == part)) (
 R (.int .i64 222) w5) (
 R (.int .i64 0) w5)) (
 R (.int .i64 0) w5))))

def call_channel.K4 (part : Int) (op : Int) (R : Value → World → Prop) (t12 : Int) (t17 : Int) (may : Bool) (w5 : World) : Prop :=
 br (!may) (
 R (.int .i64 190) w5) (
 br (op == 23) (
 call_channel.K3 part op R t12 t17 w5) (
 br (op == 25) (
 call_channel.K3 part op R t12 t17 w5) (
 br (op == 24) (
 call_channel.K2 part R t12 t17 w5) (
 br (op == 26) (
 call_channel.K2 part R t12 t17 w5) (
 br (!(IntKind.wrap .i64 t12 == part)) (
 br (!(IntKind.wrap .i64 t17 == part)) (
 R (.int .i64 222) w5) (
 R (.int .i64 0) w5)) (
 R (.int .i64 0) w5))))))

def call_channel.K5 (part : Int) (op : Int) (R : Value → World → Prop) (t12 : Int) (t17 : Int) (t22 : Int) (t25 : Int) (t28 : Bool) (w4 : World) : Prop :=
 br t28 (
 call_channel.K4 part op R t12 t17 (t22 == 0) w4) (
 br (op == 27) (
 br (op == 23) (
 call_channel.K1 part op R t12 t17 w4) (
 br (op == 25) (
 call_channel.K1 part op R t12 t17 w4) (
 br (op == 24) (
 call_channel.K0 part R t12 t17 w4) (
 br (op == 26) (
 call_channel.K0 part R t12 t17 w4) (
 br (!(IntKind.wrap .i64 t12 == part)) (
 br (!(IntKind.wrap .i64 t17 == part)) (
 R (.int .i64 222) w4) (
 R (.int .i64 0) w4)) (
 R (.int .i64 0) w4)))))) (
 call_channel.K4 part op R t12 t17 (t25 == 1) w4))

def call_channel.F (c : Int) (c1 : Int) (c2 : Int) (c3 : Int) (c4 : Int) (c5 : Int) (part : Int) (op : Int) (w : World) (R : Value → World → Prop) : Prop :=
 newBlk w (.cells #[.int .u8 c, .int .u8 c1, .int .u8 c2, .int .u8 c3, .int .u8 c4, .int .u16 c5] 49 (0, 0)) fun b w1 =>
 drawC w1 fun w2 =>
 ∃ t12 : Int, w2.cell? ⟨b, 1, none⟩ = some (.int .u8 t12) ∧
 ∃ t17 : Int, w2.cell? ⟨b, 2, none⟩ = some (.int .u8 t17) ∧
 drawC w2 fun w3 =>
 ∃ t22 : Int, w3.cell? ⟨b, 0, none⟩ = some (.int .u8 t22) ∧
 ∃ t25 : Int, w3.cell? ⟨b, 0, none⟩ = some (.int .u8 t25) ∧
 br (op == 23) (
 call_channel.K5 part op R t12 t17 t22 t25 (op == 23) w3) (
 br (op == 24) (
 call_channel.K5 part op R t12 t17 t22 t25 (op == 24) w3) (
 call_channel.K5 part op R t12 t17 t22 t25 (op == 28) w3))

theorem call_channel.vc (c : Int) (c1 : Int) (c2 : Int) (c3 : Int) (c4 : Int) (c5 : Int) (part : Int) (op : Int) (w : World) (R : Value → World → Prop) : fnVC Tryd.prog call_channel.A Tryd.f30 [.agg #[.int .u8 c, .int .u8 c1, .int .u8 c2, .int .u8 c3, .int .u8 c4, .int .u16 c5], .int .i64 part, .int .i64 op] w R = call_channel.F c c1 c2 c3 c4 c5 part op w R := by kernel_rfl
theorem call_channel.calls (c : Int) (c1 : Int) (c2 : Int) (c3 : Int) (c4 : Int) (c5 : Int) (part : Int) (op : Int) (w : World) (R : Value → World → Prop) (h : call_channel.F c c1 c2 c3 c4 c5 part op w R) : Calls Tryd.prog 30 #[.agg #[.int .u8 c, .int .u8 c1, .int .u8 c2, .int .u8 c3, .int .u8 c4, .int .u16 c5], .int .i64 part, .int .i64 op] w (Ret R) :=
  calls_of_vc mixed Tryd.func30 (Eq.mpr (call_channel.vc c c1 c2 c3 c4 c5 part op w R) h)

/-! ### purlin/call.Check: function 18 -/
def call_Check.A : Ann where
  sched := fun i => match i with
    | 12 => some (none, .still 0 false 460 <| .still 1 false 461 <| .still 2 false 451 <| .still 3 false 455 <| .still 4 false 463 <| .still 5 false 479 <| .still 6 false 447 <| .still 7 false 127 <| .still 8 false 255 <| .eff 9 <| .still 10 false 1023 <| .done)
    | _ => none
  loop := fun i => match i with
    | _ => none

def call_Check.K0 (part : Int) (R : Value → World → Prop) (b : Nat) (b1 : Nat) (t36 : Bool) (w4 : World) : Prop :=
 br t36 (
 R (.int .i64 0) w4) (
 ∃ t47 : Int, w4.cell? ⟨b1, 1, none⟩ = some (.int .i64 t47) ∧
 br (decide (t47 < 0)) (
 R (.int .i64 221) w4) (
 ∃ t51 : Int, w4.cell? ⟨b1, 1, none⟩ = some (.int .i64 t51) ∧
 ∃ t53A : Option Addr, ∃ t53N : Nat, ∃ t53C : Nat, w4.cell? ⟨b, 3, none⟩ = some (.slice t53A t53N t53C) ∧
 br (decide (t51 ≥ ((t53N : Nat) : Int))) (
 R (.int .i64 221) w4) (
 drawC w4 fun w5 =>
 ∃ t58A : Option Addr, ∃ t58N : Nat, ∃ t58C : Nat, w5.cell? ⟨b, 3, none⟩ = some (.slice t58A t58N t58C) ∧
 ∃ t60 : Int, w5.cell? ⟨b1, 1, none⟩ = some (.int .i64 t60) ∧
 0 ≤ (t60 : Int) ∧ t60 < ((t58N : Nat) : Int) ∧ okP t58A (
 ∃ t62 : Int, w5.cell? ⟨(pb t58A), po t58A + t60.toNat * 6, none⟩ = some (.int .u8 t62) ∧ ∃ t621 : Int, w5.cell? ⟨(pb t58A), po t58A + t60.toNat * 6 + 1, none⟩ = some (.int .u8 t621) ∧ ∃ t622 : Int, w5.cell? ⟨(pb t58A), po t58A + t60.toNat * 6 + 2, none⟩ = some (.int .u8 t622) ∧ ∃ t623 : Int, w5.cell? ⟨(pb t58A), po t58A + t60.toNat * 6 + 3, none⟩ = some (.int .u8 t623) ∧ ∃ t624 : Int, w5.cell? ⟨(pb t58A), po t58A + t60.toNat * 6 + 4, none⟩ = some (.int .u8 t624) ∧ ∃ t625 : Int, w5.cell? ⟨(pb t58A), po t58A + t60.toNat * 6 + 5, none⟩ = some (.int .u16 t625) ∧ 
 ∃ t65 : Int, w5.cell? ⟨b1, 0, none⟩ = some (.int .i64 t65) ∧
 Calls Tryd.prog 30 #[.agg #[.int .u8 t62, .int .u8 t621, .int .u8 t622, .int .u8 t623, .int .u8 t624, .int .u16 t625], .int .i64 part, .int .i64 t65] w5 (fun e w6 => ∃ t66 : Int, e = .returned (.int .i64 t66) ∧
 R (.int .i64 t66) w6)))))

def call_Check.F (p : Int) (pA : Option Addr) (pN : Nat) (pC : Nat) (pA1 : Option Addr) (pN1 : Nat) (pC1 : Nat) (pA2 : Option Addr) (pN2 : Nat) (pC2 : Nat) (pA3 : Option Addr) (pN3 : Nat) (pC3 : Nat) (part : Int) (x : Int) (x1 : Int) (x2 : Int) (x3 : ByteArray) (w : World) (R : Value → World → Prop) : Prop :=
 newBlk w (.cells #[.int .u16 p, .slice pA pN pC, .slice pA1 pN1 pC1, .slice pA2 pN2 pC2, .slice pA3 pN3 pC3] 45 (0, 0)) fun b w1 =>
 newBlk w1 (.cells #[.int .i64 x, .int .i64 x1, .int .i64 x2, .string x3] 30 (0, 0)) fun b1 w2 =>
 br (decide (part < 0)) (
 R (.int .i64 231) w2) (
 ∃ t13A : Option Addr, ∃ t13N : Nat, ∃ t13C : Nat, w2.cell? ⟨b, 2, none⟩ = some (.slice t13A t13N t13C) ∧
 br (decide (part ≥ ((t13N : Nat) : Int))) (
 R (.int .i64 231) w2) (
 ∃ t17 : Int, w2.cell? ⟨b1, 0, none⟩ = some (.int .i64 t17) ∧ ∃ t171 : Int, w2.cell? ⟨b1, 1, none⟩ = some (.int .i64 t171) ∧ ∃ t172 : Int, w2.cell? ⟨b1, 2, none⟩ = some (.int .i64 t172) ∧ ∃ t173 : ByteArray, w2.cell? ⟨b1, 3, none⟩ = some (.string t173) ∧ 
 Calls Tryd.prog 20 #[.agg #[.int .i64 t17, .int .i64 t171, .int .i64 t172, .string t173]] w2 (fun e w3 => ∃ t18 : Int, e = .returned (.int .i64 t18) ∧
 br (t18 != 0) (
 R (.int .i64 t18) w3) (
 ∃ t24 : Int, w3.cell? ⟨b1, 0, none⟩ = some (.int .i64 t24) ∧
 br (t24 == 22) (
 ∃ t28 : Int, w3.cell? ⟨b1, 1, none⟩ = some (.int .i64 t28) ∧
 br (decide (t28 < 0)) (
 R (.int .i64 181) w3) (
 ∃ t32 : Int, w3.cell? ⟨b1, 1, none⟩ = some (.int .i64 t32) ∧
 br (decide (t32 > 2)) (
 R (.int .i64 181) w3) (
 ∃ t38 : Int, w3.cell? ⟨b1, 0, none⟩ = some (.int .i64 t38) ∧
 br (decide (t38 < 23)) (
 R (.int .i64 0) w3) (
 ∃ t42 : Int, w3.cell? ⟨b1, 0, none⟩ = some (.int .i64 t42) ∧
 call_Check.K0 part R b b1 (decide (t42 > 28)) w3)))) (
 ∃ t381 : Int, w3.cell? ⟨b1, 0, none⟩ = some (.int .i64 t381) ∧
 br (decide (t381 < 23)) (
 R (.int .i64 0) w3) (
 ∃ t421 : Int, w3.cell? ⟨b1, 0, none⟩ = some (.int .i64 t421) ∧
 call_Check.K0 part R b b1 (decide (t421 > 28)) w3))))))

theorem call_Check.vc (p : Int) (pA : Option Addr) (pN : Nat) (pC : Nat) (pA1 : Option Addr) (pN1 : Nat) (pC1 : Nat) (pA2 : Option Addr) (pN2 : Nat) (pC2 : Nat) (pA3 : Option Addr) (pN3 : Nat) (pC3 : Nat) (part : Int) (x : Int) (x1 : Int) (x2 : Int) (x3 : ByteArray) (w : World) (R : Value → World → Prop) : fnVC Tryd.prog call_Check.A Tryd.f18 [.agg #[.int .u16 p, .slice pA pN pC, .slice pA1 pN1 pC1, .slice pA2 pN2 pC2, .slice pA3 pN3 pC3], .int .i64 part, .agg #[.int .i64 x, .int .i64 x1, .int .i64 x2, .string x3]] w R = call_Check.F p pA pN pC pA1 pN1 pC1 pA2 pN2 pC2 pA3 pN3 pC3 part x x1 x2 x3 w R := by kernel_rfl
theorem call_Check.calls (p : Int) (pA : Option Addr) (pN : Nat) (pC : Nat) (pA1 : Option Addr) (pN1 : Nat) (pC1 : Nat) (pA2 : Option Addr) (pN2 : Nat) (pC2 : Nat) (pA3 : Option Addr) (pN3 : Nat) (pC3 : Nat) (part : Int) (x : Int) (x1 : Int) (x2 : Int) (x3 : ByteArray) (w : World) (R : Value → World → Prop) (h : call_Check.F p pA pN pC pA1 pN1 pC1 pA2 pN2 pC2 pA3 pN3 pC3 part x x1 x2 x3 w R) : Calls Tryd.prog 18 #[.agg #[.int .u16 p, .slice pA pN pC, .slice pA1 pN1 pC1, .slice pA2 pN2 pC2, .slice pA3 pN3 pC3], .int .i64 part, .agg #[.int .i64 x, .int .i64 x1, .int .i64 x2, .string x3]] w (Ret R) :=
  calls_of_vc mixed Tryd.func18 (Eq.mpr (call_Check.vc p pA pN pC pA1 pN1 pC1 pA2 pN2 pC2 pA3 pN3 pC3 part x x1 x2 x3 w R) h)

end Go.Proofs.YtmihgfhpmnomoaaDoor
