/- Logs of faults: the plain law of a ring of entries. Conditions: none. -/
import Derived.Test.YtgkbokhmmoemfaaVcMem
import Derived.Test.YtgkbokhmmoemfaaVcInt
namespace Go.Proofs.Ytgkbokhmmoemfaa
open Go.Vc
set_option linter.unusedSimpArgs false
set_option linter.unusedVariables false

structure Entry where
  tick : Int
  part : Int
  proc : Int
  kind : Int
  act : Int
deriving DecidableEq

def encE : Enc Entry := ⟨5, fun e => [.int .i64 e.tick, .int .i64 e.part, .int .i64 e.proc, .int .u8 e.kind, .int .u8 e.act], fun _ => rfl, by decide, fun x v hv => by
  simp at hv; rcases hv with h | h | h | h | h <;> rw [h] <;> rfl⟩

/-- The ring l, from first on, has the last of all. -/
structure LogInv (size : Nat) (all l : List Entry) (first : Nat) : Prop where
  len : l.length = 64
  lo : 1 ≤ size
  hi : size ≤ 64
  ft : first < size
  at_ : ∀ i, i < min all.length size → l[(first + i) % size]? = all[all.length - min all.length size + i]?

theorem LogInv.new {size : Nat} (lo : 1 ≤ size) (hi : size ≤ 64) (l : List Entry) (hl : l.length = 64) : LogInv size [] l 0 :=
  ⟨hl, lo, hi, by omega, fun i h => by simp at h⟩

theorem LogInv.room {size : Nat} {all l : List Entry} {first : Nat} (h : LogInv size all l first) (x : Entry) (hr : all.length < size) :
    LogInv size (all ++ [x]) (l.set ((first + all.length) % size) x) first := by
  have hf := h.ft
  refine ⟨by simp [h.len], h.lo, h.hi, h.ft, fun i hi => ?_⟩
  have hm : min (all ++ [x]).length size = all.length + 1 := by simp; omega
  rw [hm] at hi ⊢
  have h64 := h.hi
  rw [ring_mod hf (by omega : i ≤ size), ring_mod hf (by omega : all.length ≤ size)]
  have hlen := h.len
  have e0 : (all ++ [x]).length - (all.length + 1) + i = i := by simp
  rw [e0]
  by_cases hia : i = all.length
  · subst hia
    rw [List.getElem?_set_self (by split <;> omega)]
    simp
  · have hlt : i < all.length := by omega
    rw [List.getElem?_set_ne (by split <;> split <;> omega), List.getElem?_append_left hlt]
    have := h.at_ i (by omega)
    rw [ring_mod hf (by omega)] at this
    rw [this]; congr 1; omega

theorem LogInv.full {size : Nat} {all l : List Entry} {first : Nat} (h : LogInv size all l first) (x : Entry) (hr : size ≤ all.length) :
    LogInv size (all ++ [x]) (l.set ((first + size) % size) x) ((first + 1) % size) := by
  have hf := h.ft
  have hlo := h.lo
  have h64 := h.hi
  have hlen := h.len
  refine ⟨by simp [h.len], h.lo, h.hi, Nat.mod_lt _ (by omega), fun i hi => ?_⟩
  have hm : min (all ++ [x]).length size = size := by simp; omega
  rw [hm] at hi ⊢
  rw [ring_mod hf (by omega : size ≤ size), ring_mod hf (by omega : 1 ≤ size)]
  rw [ring_mod (by split <;> omega) (by omega : i ≤ size)]
  by_cases hia : i = size - 1
  · rw [show (all ++ [x])[(all ++ [x]).length - size + i]? = some x by
      rw [List.getElem?_append_right (by simp; omega)]
      simp
      rw [show all.length + 1 - size + i - all.length = 0 by omega]; simp]
    rw [if_neg (by omega : ¬ first + size < size)]
    have e : (if (if first + 1 < size then first + 1 else first + 1 - size) + i < size then (if first + 1 < size then first + 1 else first + 1 - size) + i else (if first + 1 < size then first + 1 else first + 1 - size) + i - size) = first + size - size := by
      split <;> split <;> omega
    rw [e, List.getElem?_set_self (by omega)]
  · have hat := h.at_ (i + 1) (by omega)
    rw [ring_mod hf (by omega), show min all.length size = size by omega] at hat
    rw [if_neg (by omega : ¬ first + size < size)]
    rw [List.getElem?_set_ne (by split <;> split <;> omega)]
    rw [List.getElem?_append_left (by simp; omega)]
    have e : (if (if first + 1 < size then first + 1 else first + 1 - size) + i < size then (if first + 1 < size then first + 1 else first + 1 - size) + i else (if first + 1 < size then first + 1 else first + 1 - size) + i - size) = (if first + (i + 1) < size then first + (i + 1) else first + (i + 1) - size) := by
      split <;> split <;> split <;> omega
    rw [e, hat]; congr 1; simp; omega

def logCells (l : List Entry) (size added first has : Int) : List Value := encE.flat l ++ [.int .i64 size, .int .i64 added, .int .i64 first, .int .i64 has]
theorem logCells_len {l : List Entry} (h : l.length = 64) (a b c d : Int) : (logCells l a b c d).length = 324 := by simp [logCells, Enc.flat_length, h, encE]
theorem logCells_tail {l : List Entry} (h : l.length = 64) (a b c d : Int) (j : Nat) : (logCells l a b c d)[320 + j]? = [Value.int .i64 a, .int .i64 b, .int .i64 c, .int .i64 d][j]? := by
  unfold logCells
  rw [List.getElem?_append_right (by simp [Enc.flat_length, h, encE])]
  simp [Enc.flat_length, h, encE]
theorem logCells_entry {l : List Entry} {i : Nat} {x : Entry} (h : l[i]? = some x) (a b c d : Int) {j : Nat} {v : Value} (hv : (encE.f x)[j]? = some v) : (logCells l a b c d)[i * 5 + j]? = some v := by
  have := encE.flat_get l i j x v h hv
  unfold logCells
  rw [List.getElem?_append_left (by have := (List.getElem?_eq_some_iff.1 this).1; exact this)]
  exact this
theorem logCells_setEntry {l : List Entry} (h : l.length = 64) (a b c d : Int) (i : Nat) (hi : i < 64) (x : Entry) :
    splice (logCells l a b c d) (i * 5) (encE.f x) = logCells (l.set i x) a b c d := encE.flat_set (by omega) x _
theorem logCells_setTail {l : List Entry} (h : l.length = 64) (a b c d : Int) (j : Nat) (hj : j < 4) (v : Value) :
    splice (logCells l a b c d) (320 + j) [v] = encE.flat l ++ [Value.int .i64 a, .int .i64 b, .int .i64 c, .int .i64 d].set j v := by
  have hf : (encE.flat l).length = 320 := by simp [Enc.flat_length, h, encE]
  unfold splice logCells
  rw [List.take_append, List.drop_append, hf]
  rw [List.take_of_length_le (by omega), List.drop_of_length_le (by simp; omega)]
  match j, hj with
  | 0, _ => simp
  | 1, _ => simp
  | 2, _ => simp
  | 3, _ => simp
end Go.Proofs.Ytgkbokhmmoemfaa
