/- Calls: names, and what a call has. Conditions: none. -/
import Derived.Test.YtmihgfhpmnomoaaDoorVcSL3
import Derived.Test.YtmihgfhpmnomoaaDoorVcInt
import Derived.Test.YtmihgfhpmnomoaaDoorCaf
import Derived.Test.YtmihgfhpmnomoaaDoorCar
namespace Go.Proofs.YtmihgfhpmnomoaaDoor
open Go.Vc
set_option linter.unusedSimpArgs false
set_option linter.unusedVariables false
set_option maxRecDepth 100000

/-- The thirty calls: a name's letters, and what the call has. -/
def tbl : List (List UInt8 × Int) := [
  ([115, 101, 109, 119, 97, 105, 116], 2),
  ([115, 101, 109, 115, 105, 103, 110, 97, 108], 1),
  ([115, 101, 109, 99, 111, 117, 110, 116], 1),
  ([101, 118, 101, 110, 116, 119, 97, 105, 116], 2),
  ([101, 118, 101, 110, 116, 115, 101, 116], 1),
  ([101, 118, 101, 110, 116, 114, 101, 115, 101, 116], 1),
  ([101, 118, 101, 110, 116, 117, 112], 1),
  ([115, 108, 101, 101, 112], 1),
  ([121, 105, 101, 108, 100], 0),
  ([115, 116, 97, 114, 116], 1),
  ([115, 116, 111, 112], 1),
  ([115, 117, 115, 112, 101, 110, 100], 1),
  ([114, 101, 115, 117, 109, 101], 1),
  ([114, 97, 105, 115, 101], 2),
  ([115, 116, 97, 116, 117, 115], 1),
  ([115, 101, 108, 102], 0),
  ([110, 111, 119], 0),
  ([101, 120, 105, 116], 0),
  ([109, 111, 100, 101], 0),
  ([114, 101, 115, 116, 97, 114, 116], 0),
  ([105, 100, 108, 101], 0),
  ([102, 97, 117, 108, 116], 1),
  ([115, 101, 110, 100], 3),
  ([114, 101, 99, 101, 105, 118, 101], 1),
  ([119, 114, 105, 116, 101], 3),
  ([114, 101, 97, 100], 1),
  ([112, 111, 114, 116, 108, 101, 110], 1),
  ([112, 111, 114, 116, 114, 111, 111, 109], 1),
  ([108, 111, 103, 108, 101, 110], 0),
  ([108, 111, 103, 101, 110, 116, 114, 121], 1)]
def nameL (op : Int) : List UInt8 := if 1 ≤ op ∧ op ≤ 30 then (tbl[(op - 1).toNat]?.getD ([], 0)).1 else []
def hasN (op : Int) : Int := if 1 ≤ op ∧ op ≤ 30 then (tbl[(op - 1).toNat]?.getD ([], 0)).2 else 0
def nameB (op : Int) : ByteArray := ⟨(nameL op).toArray⟩
theorem op30 {p : Int → Prop} (h : ∀ k : Fin 30, p ((k.val + 1 : Nat) : Int)) {op : Int} (h1 : 1 ≤ op) (h2 : op ≤ 30) : p op := by
  have := h ⟨(op - 1).toNat, by omega⟩
  rwa [show (((op - 1).toNat + 1 : Nat) : Int) = op by omega] at this
theorem ba_ext {x y : ByteArray} (h : x.toList = y.toList) : x = y := by
  have e : ∀ z : ByteArray, z.toList = z.data.toList := fun z => ByteArray.toList_eq z
  rw [e, e] at h
  cases x; cases y
  simp at h
  rw [h]
theorem ba_beq (x y : ByteArray) : (x.toList == y.toList) = decide (x = y) := by
  by_cases h : x = y
  · subst h; simp
  · have : ¬ x.toList = y.toList := fun e => h (ba_ext e)
    simp [h, this]
theorem nameB_out {op : Int} (h : ¬ (1 ≤ op ∧ op ≤ 30)) : nameB op = ⟨#[]⟩ ∧ hasN op = 0 := by
  unfold nameB nameL hasN; rw [if_neg h, if_neg h]; exact ⟨rfl, rfl⟩
theorem nameB_in {op : Int} (h1 : 1 ≤ op) (h2 : op ≤ 30) : nameB op ≠ ⟨#[]⟩ := op30 (p := fun op => nameB op ≠ ⟨#[]⟩) (by decide +kernel) h1 h2
theorem nameB_empty {op : Int} : nameB op = ⟨#[]⟩ ↔ ¬ (1 ≤ op ∧ op ≤ 30) := ⟨fun h hn => nameB_in hn.1 hn.2 h, fun h => (nameB_out h).1⟩
theorem nameB_inj {a b : Int} (a1 : 1 ≤ a) (a2 : a ≤ 30) (b1 : 1 ≤ b) (b2 : b ≤ 30) (h : nameB a = nameB b) : a = b := by
  have key : ∀ i j : Fin 30, nameB ((i.val + 1 : Nat) : Int) = nameB ((j.val + 1 : Nat) : Int) → ((i.val + 1 : Nat) : Int) = ((j.val + 1 : Nat) : Int) := by decide +kernel
  have := op30 (p := fun a => ∀ j : Fin 30, nameB a = nameB ((j.val + 1 : Nat) : Int) → a = ((j.val + 1 : Nat) : Int)) (fun i j => key i j) a1 a2
  exact op30 (p := fun b => nameB a = nameB b → a = b) this b1 b2 h

/-! ### The document's names, one text -/
def namesB : ByteArray := (⟨#[115, 101, 109, 119, 97, 105, 116, 50, 32, 115, 101, 109, 115, 105, 103, 110, 97, 108, 49, 32, 115, 101, 109, 99, 111, 117, 110, 116, 49, 32, 101, 118, 101, 110, 116, 119, 97, 105, 116, 50, 32, 101, 118, 101, 110, 116, 115, 101, 116, 49, 32, 101, 118, 101, 110, 116, 114, 101, 115, 101, 116, 49, 32, 101, 118, 101, 110, 116, 117, 112, 49, 32, 115, 108, 101, 101, 112, 49, 32, 121, 105, 101, 108, 100, 48, 32, 115, 116, 97, 114, 116, 49, 32, 115, 116, 111, 112, 49, 32, 115, 117, 115, 112, 101, 110, 100, 49, 32, 114, 101, 115, 117, 109, 101, 49, 32, 114, 97, 105, 115, 101, 50, 32, 115, 116, 97, 116, 117, 115, 49, 32, 115, 101, 108, 102, 48, 32, 110, 111, 119, 48, 32, 101, 120, 105, 116, 48, 32, 109, 111, 100, 101, 48, 32, 114, 101, 115, 116, 97, 114, 116, 48, 32, 105, 100, 108, 101, 48, 32, 102, 97, 117, 108, 116, 49, 32, 115, 101, 110, 100, 51, 32, 114, 101, 99, 101, 105, 118, 101, 49, 32, 119, 114, 105, 116, 101, 51, 32, 114, 101, 97, 100, 49, 32, 112, 111, 114, 116, 108, 101, 110, 49, 32, 112, 111, 114, 116, 114, 111, 111, 109, 49, 32, 108, 111, 103, 108, 101, 110, 48, 32, 108, 111, 103, 101, 110, 116, 114, 121, 49, 32]⟩ : ByteArray)
def nb (i : Nat) : Int := (((namesB.data.getD i 0).toNat : Nat) : Int)
def sc : Nat → Nat × Nat
  | 0 => (1, 0)
  | i + 1 => if nb i = 32 then ((sc i).1 + 1, i + 1) else sc i
theorem sc_ends : ∀ i : Fin 241, nb i.val = 32 → (sc i.val).2 + 1 ≤ i.val ∧ namesB.extract (sc i.val).2 (i.val - 1) = nameB ((sc i.val).1 : Int) ∧ IntKind.wrap .i64 (IntKind.wrap .u8 (nb (i.val - 1) - 48)) = hasN ((sc i.val).1 : Int) := by decide +kernel
theorem sc_last : (sc 241).1 = 31 := by decide +kernel
theorem sc_big : ∀ i : Fin 241, (sc i.val).1 ≤ 30 ∧ (sc i.val).2 ≤ i.val ∧ 1 ≤ (sc i.val).1 := by decide +kernel

section
variable {e w : World} {m : Hp} {L : List HP}
theorem call_Name_sp (H : St e m w L) (op : Int) : Calls Tryd.prog 10 #[.int .i64 op] w (Ret fun v w' => v = .string (nameB op) ∧ w' = w) := by
  apply call_Name.calls
  unfold call_Name.F
  refine br_dec (fun h => ⟨by rw [(nameB_out (by omega)).1], rfl⟩) fun h1 => br_dec (fun h => ⟨by rw [(nameB_out (by omega)).1], rfl⟩) fun h2 => ⟨by omega, by omega, ?_⟩
  have : op = 1 ∨ op = 2 ∨ op = 3 ∨ op = 4 ∨ op = 5 ∨ op = 6 ∨ op = 7 ∨ op = 8 ∨ op = 9 ∨ op = 10 ∨ op = 11 ∨ op = 12 ∨ op = 13 ∨ op = 14 ∨ op = 15 ∨ op = 16 ∨ op = 17 ∨ op = 18 ∨ op = 19 ∨ op = 20 ∨ op = 21 ∨ op = 22 ∨ op = 23 ∨ op = 24 ∨ op = 25 ∨ op = 26 ∨ op = 27 ∨ op = 28 ∨ op = 29 ∨ op = 30 := by omega
  rcases this with rfl | rfl | rfl | rfl | rfl | rfl | rfl | rfl | rfl | rfl | rfl | rfl | rfl | rfl | rfl | rfl | rfl | rfl | rfl | rfl | rfl | rfl | rfl | rfl | rfl | rfl | rfl | rfl | rfl | rfl <;> exact ⟨_, rfl, rfl, rfl⟩
theorem call_Number_sp (H : St e m w L) (name : ByteArray) : Calls Tryd.prog 11 #[.string name] w (Ret fun v w' => ∃ (k : Int) (ok : Bool), v = .tuple #[.int .i64 k, .bool ok] ∧ (ok = true → 1 ≤ k ∧ k ≤ 30 ∧ name = nameB k) ∧ (ok = false → k = 0 ∧ ∀ j : Int, 1 ≤ j → j ≤ 30 → name ≠ nameB j) ∧ w' = w) := by
  apply call_Number.calls
  unfold call_Number.F
  refine ⟨fun n op w' => ∃ k : Nat, op = k ∧ 1 ≤ k ∧ k ≤ 31 ∧ n = 31 - k ∧ w' = w ∧ ∀ j : Int, 1 ≤ j → j < k → name ≠ nameB j, ⟨_, 1, rfl, by omega, by omega, rfl, rfl, fun j h1 h2 => by omega⟩, ?_⟩
  rintro n9 dead w1 op ⟨k, rfl, hk1, hk2, rfl, rfl, hno⟩
  unfold call_Number.L0
  refine br_dec (fun h => ?_) fun h => ?_
  · refine Calls.ret (call_Name_sp H k) ?_
    rintro v w2 ⟨rfl, rfl⟩
    refine ⟨_, rfl, ?_⟩
    rw [ba_beq]
    refine br_dec (fun he => ⟨k, true, rfl, fun _ => ⟨by omega, by omega, he.symm⟩, fun h => (by cases h), rfl⟩) fun he => ?_
    have hk1 : IntKind.wrap .i64 ((k : Int) + 1) = ((k + 1 : Nat) : Int) := by rw [← Int.natCast_succ, wrap64_nat (by omega)]
    refine ⟨31 - (k + 1), by omega, k + 1, hk1, by omega, by omega, rfl, rfl, fun j h1 h2 => ?_⟩
    by_cases hj : j = k
    · subst hj; exact fun e => he e.symm
    · exact hno j h1 (by omega)
  · exact ⟨0, false, rfl, fun h => (by cases h), fun _ => ⟨rfl, fun j h1 h2 => hno j h1 (by omega)⟩, rfl⟩
theorem ref21_Name_sp (H : St e m w L) (op : Int) : Calls Tryd.prog 9 #[.int .i64 op] w (Ret fun v w' => v = .tuple #[.string (nameB op), .int .i64 (hasN op)] ∧ St e m w' L) := by
  apply purlinref21_Name.calls
  unfold purlinref21_Name.F
  refine ⟨fun n n1 f1 i w' => ∃ k : Nat, i = k ∧ k ≤ 241 ∧ n = 241 - k ∧ n1 = ((sc k).1 : Nat) ∧ f1 = ((sc k).2 : Nat) ∧ (∀ j : Int, 1 ≤ j → j < ((sc k).1 : Nat) → op ≠ j) ∧ St e m w' L, ⟨_, 0, rfl, by omega, rfl, rfl, rfl, fun j h1 h2 => by simp [sc] at h2; omega, H⟩, ?_⟩
  rintro n9 dead w1 n1 f1 i ⟨k, rfl, hk, rfl, rfl, rfl, hno, H⟩
  unfold purlinref21_Name.L0
  rw [show (⟨#[115, 101, 109, 119, 97, 105, 116, 50, 32, 115, 101, 109, 115, 105, 103, 110, 97, 108, 49, 32, 115, 101, 109, 99, 111, 117, 110, 116, 49, 32, 101, 118, 101, 110, 116, 119, 97, 105, 116, 50, 32, 101, 118, 101, 110, 116, 115, 101, 116, 49, 32, 101, 118, 101, 110, 116, 114, 101, 115, 101, 116, 49, 32, 101, 118, 101, 110, 116, 117, 112, 49, 32, 115, 108, 101, 101, 112, 49, 32, 121, 105, 101, 108, 100, 48, 32, 115, 116, 97, 114, 116, 49, 32, 115, 116, 111, 112, 49, 32, 115, 117, 115, 112, 101, 110, 100, 49, 32, 114, 101, 115, 117, 109, 101, 49, 32, 114, 97, 105, 115, 101, 50, 32, 115, 116, 97, 116, 117, 115, 49, 32, 115, 101, 108, 102, 48, 32, 110, 111, 119, 48, 32, 101, 120, 105, 116, 48, 32, 109, 111, 100, 101, 48, 32, 114, 101, 115, 116, 97, 114, 116, 48, 32, 105, 100, 108, 101, 48, 32, 102, 97, 117, 108, 116, 49, 32, 115, 101, 110, 100, 51, 32, 114, 101, 99, 101, 105, 118, 101, 49, 32, 119, 114, 105, 116, 101, 51, 32, 114, 101, 97, 100, 49, 32, 112, 111, 114, 116, 108, 101, 110, 49, 32, 112, 111, 114, 116, 114, 111, 111, 109, 49, 32, 108, 111, 103, 108, 101, 110, 48, 32, 108, 111, 103, 101, 110, 116, 114, 121, 49, 32]⟩ : ByteArray) = namesB from rfl]
  have hsz : namesB.size = 241 := by decide +kernel
  refine br_dec (fun h => ?_) fun h => ?_
  · have hk' : k < 241 := by omega
    obtain ⟨b1, b2, b3⟩ := sc_big ⟨k, hk'⟩
    refine ⟨by omega, by omega, ?_⟩
    have hk1 : IntKind.wrap .i64 ((k : Int) + 1) = ((k + 1 : Nat) : Int) := by rw [← Int.natCast_succ, wrap64_nat (by omega)]
    simp only [toNat_nat]
    have hnb : (((namesB.data.getD k 0).toNat : Nat) : Int) = nb k := rfl
    rw [hnb]
    refine br_intro (fun hne => ?_) fun heq => ?_
    · have hs : sc (k + 1) = sc k := by rw [show sc (k + 1) = if nb k = 32 then ((sc k).1 + 1, k + 1) else sc k from rfl, if_neg (by simpa using hne)]
      exact ⟨241 - (k + 1), by omega, k + 1, hk1, by omega, rfl, by rw [hs], by rw [hs], by rw [hs]; exact hno, H⟩
    · have heq : nb k = 32 := by simpa using heq
      have hs : sc (k + 1) = ((sc k).1 + 1, k + 1) := by rw [show sc (k + 1) = if nb k = 32 then ((sc k).1 + 1, k + 1) else sc k from rfl, if_pos heq]
      obtain ⟨c1, c2, c3⟩ := sc_ends ⟨k, hk'⟩ heq
      simp only at c1 c2 c3 b1 b2 b3
      refine br_intro (fun ho => ?_) fun ho => ?_
      · have ho : ((sc k).1 : Int) = op := by simpa using ho
        have hw : IntKind.wrap .i64 ((k : Int) - 1) = ((k - 1 : Nat) : Int) := by rw [show (k : Int) - 1 = ((k - 1 : Nat) : Int) by omega, wrap64_nat (by omega)]
        rw [hw]
        refine H.drw fun w H => ⟨by omega, by omega, by omega, by simp only [toNat_nat]; omega, by omega, by omega, ?_, H⟩
        simp only [toNat_nat]
        rw [c2, show ((((namesB.data.getD (k - 1) 0).toNat : Nat) : Int)) = nb (k - 1) from rfl, c3, ho]
      · have ho : ((sc k).1 : Int) ≠ op := by simpa using ho
        refine ⟨241 - (k + 1), by omega, k + 1, hk1, by omega, rfl, ?_, by rw [hs]; exact hk1, ?_, H⟩
        · rw [hs, ← Int.natCast_succ, wrap64_nat (by omega)]
        · rw [hs]
          intro j h1 h2
          by_cases hj : j = ((sc k).1 : Int)
          · subst hj; exact Ne.symm ho
          · exact hno j h1 (by omega)
  · have hke : k = 241 := by omega
    subst hke
    rw [sc_last] at hno
    have hout : ¬ (1 ≤ op ∧ op ≤ 30) := fun h => hno op h.1 (by omega) rfl
    obtain ⟨e1, e2⟩ := nameB_out hout
    exact ⟨by rw [e1, e2], H⟩
end
end Go.Proofs.YtmihgfhpmnomoaaDoor
