/- Calls: Parse. Conditions: none. -/
import Derived.Test.YtmihgfhpmnomoaaDoorCaH
namespace Go.Proofs.YtmihgfhpmnomoaaDoor
open Go.Vc Go.Lib
set_option linter.unusedSimpArgs false
set_option linter.unusedVariables false
set_option maxRecDepth 100000

theorem index_byte (c : UInt8) : ∀ l : List UInt8, index l [c] = indexByte l c
  | [] => rfl
  | b :: l => by
    unfold index indexByte
    rw [index_byte c l]
    by_cases h : b = c
    · subst h; simp [List.isPrefixOf]
    · simp [List.isPrefixOf, h, Ne.symm h]
/-- What stands ahead of the first blank. -/
theorem cut_first (l : List UInt8) : ∃ k, firstIx l k ∧ (Lib.cut l [32]).1 = l.take k := by
  unfold Lib.cut
  rw [index_byte]
  rcases indexByte_spec 32 l with ⟨h1, h2⟩ | ⟨k, h1, h2, h3, h4⟩
  · rw [h1, if_neg (by decide)]
    exact ⟨l.length, ⟨Nat.le_refl _, by rw [List.take_length]; exact h2, by simp⟩, by simp⟩
  · rw [h1, if_pos (by omega)]
    exact ⟨k, ⟨by omega, h4, fun c hc => by rw [List.head?_drop, h3] at hc; exact (Option.some.inj hc).symm⟩, by simp⟩
/-- A call's text behind its name; behind A; behind B. -/
def tailS (op : Int) (s : List UInt8) : List UInt8 := if fS op = true then 32 :: 61 :: s else []
def tailB (op b : Int) (s : List UInt8) : List UInt8 := (if fB op = true then 32 :: itoa b else []) ++ tailS op s
def tailA (op a b : Int) (s : List UInt8) : List UInt8 := (if fA op = true then 32 :: itoa a else []) ++ tailB op b s
theorem showL_eq (op a b : Int) (s : List UInt8) : showL op a b s = nameL op ++ tailA op a b s := rfl
theorem blanky_nil : blanky [] := fun c h => by cases h
theorem blanky_cons (l : List UInt8) : blanky (32 :: l) := fun c h => (Option.some.inj h).symm
theorem blanky_S (op : Int) (s : List UInt8) : blanky (tailS op s) := by
  unfold tailS; split
  · exact blanky_cons _
  · exact blanky_nil
theorem blanky_B (op b : Int) (s : List UInt8) : blanky (tailB op b s) := by
  unfold tailB; split
  · exact blanky_cons _
  · exact blanky_S op s
theorem blanky_A (op a b : Int) (s : List UInt8) : blanky (tailA op a b s) := by
  unfold tailA; split
  · exact blanky_cons _
  · exact blanky_B op b s
theorem nameL_no32 {op : Int} (h1 : 1 ≤ op) (h2 : op ≤ 30) : (32 : UInt8) ∉ nameL op := op30 (p := fun op => (32 : UInt8) ∉ nameL op) (by decide +kernel) h1 h2
theorem word_one {a b s t : List UInt8} (ha : (32 : UInt8) ∉ a) (hb : (32 : UInt8) ∉ b) (hs : blanky s) (ht : blanky t) (h : a ++ s = b ++ t) : a = b ∧ s = t := by
  have h1 := firstIx_app ha hs
  have h2 := firstIx_app hb ht
  rw [h] at h1
  have := firstIx_one h1 h2
  exact List.append_inj h this
theorem right_in {op a b : Int} {s : ByteArray} (h : rightE op a b s = 0) : 1 ≤ op ∧ op ≤ 30 := by
  unfold rightE at h
  split at h
  · cases h
  · rename_i hn
    exact Classical.not_not.1 fun hc => hn (nameB_out hc).1
/-- What of a text, behind a call's name, is no call's. -/
def badA (op : Int) (r : List UInt8) : Prop := ∀ (a b : Int) (s : ByteArray), rightE op a b s = 0 → inR a → inR b → r ≠ tailA op a b s.data.toList
def badB (op : Int) (r : List UInt8) : Prop := ∀ (b : Int) (s : ByteArray), inR b → r ≠ tailB op b s.data.toList
def badS (op : Int) (r : List UInt8) : Prop := ∀ (s : ByteArray), r ≠ tailS op s.data.toList
theorem badB_of {op : Int} {r : List UInt8} {b : Int} (hb : inR b) (hr : blanky r) (h : badS op r) (hB : fB op = true) : badB op (32 :: (itoa b ++ r)) := by
  intro b' s hb' he
  unfold tailB at he
  rw [if_pos hB] at he
  simp only [List.cons_append, List.cons.injEq, true_and] at he
  exact h s (word_one (itoa_no32 hb) (itoa_no32 hb') hr (blanky_S _ _) he).2
theorem badA_of {op : Int} {r : List UInt8} {a : Int} (ha : inR a) (hr : blanky r) (h : badB op r) (hA : fA op = true) : badA op (32 :: (itoa a ++ r)) := by
  intro a' b' s _ ha' hb' he
  unfold tailA at he
  rw [if_pos hA] at he
  simp only [List.cons_append, List.cons.injEq, true_and] at he
  exact h b' s hb' (word_one (itoa_no32 ha) (itoa_no32 ha') hr (blanky_B _ _ _) he).2

/-- What a text is told as. -/
def parseR (t : List UInt8) (op a b : Int) (s : ByteArray) (er : Int) : Prop :=
  (er = 0 ∧ rightE op a b s = 0 ∧ inR a ∧ inR b ∧ t = showL op a b s.data.toList) ∨
  (er = 223 ∧ op = 0 ∧ a = 0 ∧ b = 0 ∧ s = ⟨#[]⟩ ∧ ∀ (op' a' b' : Int) (s' : ByteArray), rightE op' a' b' s' = 0 → inR a' → inR b' → t ≠ showL op' a' b' s'.data.toList)
end Go.Proofs.YtmihgfhpmnomoaaDoor
