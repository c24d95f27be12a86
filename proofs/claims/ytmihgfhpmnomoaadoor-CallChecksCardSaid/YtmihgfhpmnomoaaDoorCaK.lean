/- Calls: a text is one call's at most; the chapter's examples. Conditions: none. -/
import Derived.Test.YtmihgfhpmnomoaaDoorCaJ
import Derived.Test.YtmihgfhpmnomoaaDoorCal
namespace Go.Proofs.YtmihgfhpmnomoaaDoor
open Go.Vc Go.Lib
set_option linter.unusedSimpArgs false
set_option linter.unusedVariables false
set_option maxRecDepth 100000

theorem right_zero {op a b : Int} {s : ByteArray} (h : rightE op a b s = 0) : (fA op = false → a = 0) ∧ (fB op = false → b = 0) ∧ (fS op = false → s = ⟨#[]⟩) := by
  obtain ⟨h1, h2⟩ := right_in h
  unfold rightE at h
  rw [if_neg (nameB_in h1 h2)] at h
  have hn : ¬ ((fA op = false ∧ a ≠ 0) ∨ (fB op = false ∧ b ≠ 0) ∨ (fS op = false ∧ s ≠ ⟨#[]⟩)) := fun hc => by rw [if_pos hc] at h; cases h
  refine ⟨fun f => Classical.byContradiction fun g => hn (.inl ⟨f, g⟩), fun f => Classical.byContradiction fun g => hn (.inr (.inl ⟨f, g⟩)), fun f => Classical.byContradiction fun g => hn (.inr (.inr ⟨f, g⟩))⟩
theorem show_op {op op' a b a' b' : Int} {s s' : List UInt8} (h1 : 1 ≤ op) (h2 : op ≤ 30) (h3 : 1 ≤ op') (h4 : op' ≤ 30) (h : showL op a b s = showL op' a' b' s') : op = op' ∧ tailA op a b s = tailA op' a' b' s' := by
  rw [showL_eq, showL_eq] at h
  obtain ⟨x1, x2⟩ := word_one (nameL_no32 h1 h2) (nameL_no32 h3 h4) (blanky_A _ _ _ _) (blanky_A _ _ _ _) h
  exact ⟨nameB_inj h1 h2 h3 h4 (by unfold nameB; rw [x1]), x2⟩
theorem show_inj {op op' a b a' b' : Int} {s s' : ByteArray} (hr : rightE op a b s = 0) (hr' : rightE op' a' b' s' = 0) (ha : inR a) (hb : inR b) (ha' : inR a') (hb' : inR b') (h : showL op a b s.data.toList = showL op' a' b' s'.data.toList) : op = op' ∧ a = a' ∧ b = b' ∧ s = s' := by
  obtain ⟨h1, h2⟩ := right_in hr
  obtain ⟨h3, h4⟩ := right_in hr'
  obtain ⟨rfl, ht⟩ := show_op h1 h2 h3 h4 h
  obtain ⟨zA, zB, zS⟩ := right_zero hr
  obtain ⟨zA', zB', zS'⟩ := right_zero hr'
  have hA : a = a' ∧ tailB op b s.data.toList = tailB op b' s'.data.toList := by
    unfold tailA at ht
    cases hf : fA op with
    | false => rw [hf] at ht; exact ⟨by rw [zA hf, zA' hf], by simpa using ht⟩
    | true =>
      rw [if_pos hf, if_pos hf] at ht
      simp only [List.cons_append, List.cons.injEq, true_and] at ht
      obtain ⟨x1, x2⟩ := word_one (itoa_no32 ha) (itoa_no32 ha') (blanky_B _ _ _) (blanky_B _ _ _) ht
      exact ⟨itoa_inj ha ha' x1, x2⟩
  obtain ⟨rfl, htB⟩ := hA
  have hB : b = b' ∧ tailS op s.data.toList = tailS op s'.data.toList := by
    unfold tailB at htB
    cases hf : fB op with
    | false => rw [hf] at htB; exact ⟨by rw [zB hf, zB' hf], by simpa using htB⟩
    | true =>
      rw [if_pos hf, if_pos hf] at htB
      simp only [List.cons_append, List.cons.injEq, true_and] at htB
      obtain ⟨x1, x2⟩ := word_one (itoa_no32 hb) (itoa_no32 hb') (blanky_S _ _) (blanky_S _ _) htB
      exact ⟨itoa_inj hb hb' x1, x2⟩
  obtain ⟨rfl, htS⟩ := hB
  refine ⟨rfl, rfl, rfl, ?_⟩
  unfold tailS at htS
  cases hf : fS op with
  | false => rw [zS hf, zS' hf]
  | true =>
    rw [if_pos hf, if_pos hf] at htS
    simp only [List.cons.injEq, true_and] at htS
    rw [← baL_of s, ← baL_of s', htS]
/-- What a text is told as is one call. -/
theorem parse_one {t : List UInt8} {op a b er op' a' b' er' : Int} {s s' : ByteArray} (h : parseR t op a b s er) (h' : parseR t op' a' b' s' er') : op = op' ∧ a = a' ∧ b = b' ∧ s = s' ∧ er = er' := by
  rcases h with ⟨e1, r, ha, hb, ht⟩ | ⟨e1, z1, z2, z3, z4, hn⟩ <;> rcases h' with ⟨e1', r', ha', hb', ht'⟩ | ⟨e1', z1', z2', z3', z4', hn'⟩
  · obtain ⟨x1, x2, x3, x4⟩ := show_inj r r' ha hb ha' hb' (ht.symm.trans ht')
    exact ⟨x1, x2, x3, x4, by rw [e1, e1']⟩
  · exact absurd ht (hn' _ _ _ _ r ha hb)
  · exact absurd ht' (hn _ _ _ _ r' ha' hb')
  · exact ⟨by rw [z1, z1'], by rw [z2, z2'], by rw [z3, z3'], by rw [z4, z4'], by rw [e1, e1']⟩
end Go.Proofs.YtmihgfhpmnomoaaDoor
