/- Calls: the chapter's examples. Conditions: none. -/
import Derived.Test.YtmihgfhpmnomoaaDoorCaK
import Derived.Test.YtmihgfhpmnomoaaDoorVcEq
namespace Go.Proofs.YtmihgfhpmnomoaaDoor
open Go.Vc Go.Lib
set_option linter.unusedSimpArgs false
set_option linter.unusedVariables false
set_option maxRecDepth 100000

theorem i0 : itoa 0 = [48] := by unfold itoa; rw [if_neg (by decide)]; exact dec_zero
theorem i1 : itoa (-1) = [45, 49] := by unfold itoa; rw [if_pos (by decide)]; exact congrArg _ (decDigits_one (by decide))
theorem i2 : itoa 2 = [50] := by unfold itoa; rw [if_neg (by decide)]; exact decDigits_one (by decide)
theorem in_small {v : Int} (h0 : -100 ≤ v) (h1 : v ≤ 100) : inR v := ⟨by omega, by omega⟩
theorem x1 : showL 1 0 (-1) [] = [115, 101, 109, 119, 97, 105, 116, 32, 48, 32, 45, 49] := by
  unfold showL; rw [i0, i1]; decide +kernel
theorem x2 : showL 23 2 0 [97, 32, 98] = [115, 101, 110, 100, 32, 50, 32, 61, 97, 32, 98] := by
  unfold showL; rw [i2, i0]; decide +kernel
theorem x3 : showL 17 0 0 [] = [110, 111, 119] := by
  unfold showL; rw [i0]; decide +kernel
/-- A text that begins with a call's name. -/
theorem first_word {op op' a b : Int} {s r : List UInt8} (h1 : 1 ≤ op) (h2 : op ≤ 30) (h3 : 1 ≤ op') (h4 : op' ≤ 30) (hr : blanky r) (h : nameL op ++ r = showL op' a b s) : op = op' ∧ r = tailA op' a b s := by
  rw [showL_eq] at h
  obtain ⟨y1, y2⟩ := word_one (nameL_no32 h1 h2) (nameL_no32 h3 h4) hr (blanky_A _ _ _ _) h
  exact ⟨nameB_inj h1 h2 h3 h4 (by unfold nameB; rw [y1]), y2⟩
theorem n4 : Bad [110, 111, 119, 32, 49] := by
  intro op a b s hr ha hb he
  obtain ⟨h3, h4⟩ := right_in hr
  have e : ([110, 111, 119, 32, 49] : List UInt8) = nameL 17 ++ [32, 49] := by decide +kernel
  rw [e] at he
  obtain ⟨rfl, ht⟩ := first_word (by decide) (by decide) h3 h4 (blanky_cons _) he
  have : tailA 17 a b s.data.toList = [] := by unfold tailA tailB tailS; rw [show fA 17 = false by decide, show fB 17 = false by decide, show fS 17 = false by decide]; rfl
  rw [this] at ht; cases ht
theorem n5 : Bad [115, 108, 101, 101, 112, 32, 48, 49] := by
  intro op a b s hr ha hb he
  obtain ⟨h3, h4⟩ := right_in hr
  have e : ([115, 108, 101, 101, 112, 32, 48, 49] : List UInt8) = nameL 8 ++ [32, 48, 49] := by decide +kernel
  rw [e] at he
  obtain ⟨rfl, ht⟩ := first_word (by decide) (by decide) h3 h4 (blanky_cons _) he
  have : tailA 8 a b s.data.toList = 32 :: itoa a := by unfold tailA tailB tailS; rw [show fA 8 = true by decide, show fB 8 = false by decide, show fS 8 = false by decide]; simp
  rw [this] at ht
  have ht : itoa a = [48, 49] := by simpa using ht.symm
  have hz := (itoa_good a ha).1.zero
  rw [ht] at hz
  have := hz (by decide)
  cases this
theorem n6 : Bad [115, 101, 110, 100, 32, 50, 32, 97] := by
  intro op a b s hr ha hb he
  obtain ⟨h3, h4⟩ := right_in hr
  have e : ([115, 101, 110, 100, 32, 50, 32, 97] : List UInt8) = nameL 23 ++ [32, 50, 32, 97] := by decide +kernel
  rw [e] at he
  obtain ⟨rfl, ht⟩ := first_word (by decide) (by decide) h3 h4 (blanky_cons _) he
  have : tailA 23 a b s.data.toList = 32 :: (itoa a ++ (32 :: 61 :: s.data.toList)) := by unfold tailA tailB tailS; rw [show fA 23 = true by decide, show fB 23 = false by decide, show fS 23 = true by decide]; simp
  rw [this] at ht
  have ht : ([50] : List UInt8) ++ [32, 97] = itoa a ++ (32 :: 61 :: s.data.toList) := by simpa using ht
  have := (word_one (by decide) (itoa_no32 ha) (blanky_cons _) (blanky_cons _) ht).2
  simp at this
end Go.Proofs.YtmihgfhpmnomoaaDoor
