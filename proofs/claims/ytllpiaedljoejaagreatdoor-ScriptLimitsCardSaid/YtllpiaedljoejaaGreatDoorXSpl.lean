/- A text's pieces between one byte, by one pass. Conditions: none. -/
import Derived.Test.YtllpiaedljoejaaGreatDoorXEnv
import Derived.Lib.SplitLaws
import Derived.Lib.IndexBytes
namespace Go.Proofs.YtllpiaedljoejaaGreatDoor
open Go.Vc Go.Lib
set_option linter.unusedSimpArgs false
set_option linter.unusedVariables false
set_option maxRecDepth 100000
def splitS (c : UInt8) : List UInt8 → List (List UInt8)
  | [] => [[]]
  | b :: r => if b = c then [] :: splitS c r else match splitS c r with | x :: t => (b :: x) :: t | [] => [[b]]
theorem splitS_ne (c : UInt8) : ∀ l, splitS c l ≠ []
  | [] => by simp [splitS]
  | b :: r => by
    unfold splitS
    split
    · simp
    · split <;> simp
theorem splitX_eq (c : UInt8) : ∀ (l acc : List UInt8), splitX c l acc = match splitS c l with | x :: t => (acc.reverse ++ x) :: t | [] => [acc.reverse]
  | [], acc => by simp [splitX, splitS]
  | b :: r, acc => by
    unfold splitX splitS
    by_cases h : b = c
    · subst h
      simp only [beq_self_eq_true, if_true]
      rw [splitX_eq b r []]
      have := splitS_ne b r
      cases hs : splitS b r with
      | nil => exact (this hs).elim
      | cons x t => simp
    · have hb : (b == c) = false := by simpa using h
      simp only [hb, if_neg h]
      rw [splitX_eq c r (b :: acc)]
      have := splitS_ne c r
      cases hs : splitS c r with
      | nil => exact (this hs).elim
      | cons x t => simp
theorem split_one (c : UInt8) : ∀ l : List UInt8, splitK [c] 0 (count l [c]) l = splitS c l
  | [] => by rw [count_miss (by simp [index])]; rfl
  | b :: r => by
    have ih := split_one c r
    have hix := index_one (b :: r) c
    have hir := index_one r c
    by_cases h : b = c
    · subst h
      have h0 : index (b :: r) [b] = ((0 : Nat) : Int) := by rw [hix]; simp [indexByte]
      rw [count_hit (by simp) h0]
      rw [show 1 + count (List.drop (0 + [b].length) (b :: r)) [b] = count r [b] + 1 by simp; omega]
      unfold splitK
      rw [if_neg (by rw [h0]; decide), h0]
      simp only [splitS, if_true]
      rw [← ih]
      simp
    · have hbc : (b == c) = false := by simpa using h
      by_cases hm : index r [c] = -1
      · have h1 : index (b :: r) [c] = -1 := by
          rw [hix]; rw [hir] at hm; simp [indexByte, hbc, hm]
        rw [count_miss hm] at ih
        rw [count_miss h1]
        simp only [splitK, splitS, if_neg h] at ih ⊢
        rw [← ih]
      · obtain ⟨i, hi⟩ : ∃ i : Nat, index r [c] = i := ⟨(index r [c]).toNat, by have := index_ge r [c]; omega⟩
        have h1 : index (b :: r) [c] = ((i + 1 : Nat) : Int) := by
          rw [hix]; rw [hir] at hi hm
          have e : (indexByte r c == -1) = false := by simpa using hm
          simp only [indexByte, hbc, e, hi]
          simp
        rw [count_hit (by simp) hi] at ih
        rw [count_hit (by simp) h1]
        have ed : List.drop (i + 1 + [c].length) (b :: r) = List.drop (i + [c].length) r := by simp
        rw [ed]
        rw [show 1 + count (List.drop (i + [c].length) r) [c] = count (List.drop (i + [c].length) r) [c] + 1 by omega] at ih ⊢
        unfold splitK at ih ⊢
        rw [if_neg (by rw [hi]; first | (simp; done) | (simp; omega)), hi] at ih
        rw [if_neg (by rw [h1]; first | (simp; done) | (simp; omega)), h1]
        simp only [splitS, if_neg h]
        rw [← ih]
        simp
theorem split_x (s : ByteArray) (c : UInt8) : (splitB ⟨#[c]⟩ 0 (countB s ⟨#[c]⟩) s).map Value.string = (splitX c s.data.toList []).map fun l => Value.string ⟨l.toArray⟩ := by
  have h1 := splitB_data ⟨#[c]⟩ 0 (countB s ⟨#[c]⟩) s
  have h2 : splitK [c] 0 (count s.data.toList [c]) s.data.toList = splitX c s.data.toList [] := by
    rw [split_one, splitX_eq]
    have := splitS_ne c s.data.toList
    cases hs : splitS c s.data.toList with
    | nil => exact (this hs).elim
    | cons x t => simp
  have h3 : (splitB ⟨#[c]⟩ 0 (countB s ⟨#[c]⟩) s).map (·.data.toList) = splitX c s.data.toList [] := h1.trans h2
  rw [← h3, List.map_map]
  apply List.map_congr_left
  intro x _
  simp
end Go.Proofs.YtllpiaedljoejaaGreatDoor
