/- Numerals: the plain law. A text is a number's numeral, or none's. Conditions: none. -/
import Derived.Lib.ParseIntBCases
import Derived.Lib.ItoaNum
namespace Go.Proofs.YtmihgfhpmnomoaaDoor
open Go.Lib
set_option linter.unusedSimpArgs false
set_option linter.unusedVariables false
set_option maxRecDepth 100000

def digit (c : UInt8) : Prop := 48 ≤ c.toNat ∧ c.toNat ≤ 57
instance (c : UInt8) : Decidable (digit c) := by unfold digit; infer_instance
def valD : Nat → List UInt8 → Nat
  | acc, [] => acc
  | acc, c :: r => valD (acc * 10 + (c.toNat - 48)) r
theorem valD_app (acc : Nat) (l r : List UInt8) : valD acc (l ++ r) = valD (valD acc l) r := by
  induction l generalizing acc with
  | nil => rfl
  | cons c l ih => exact ih _
theorem valD_ge (acc : Nat) (l : List UInt8) : acc ≤ valD acc l := by
  induction l generalizing acc with
  | nil => exact Nat.le_refl _
  | cons c l ih => exact Nat.le_trans (by omega) (ih (acc * 10 + (c.toNat - 48)))
/-- ParseUint's round over digits alone. -/
theorem parseUintM_digits {M : Nat} (hM : M ≤ 18446744073709551615) : ∀ {l : List UInt8} {acc : Nat}, acc ≤ M → (∀ c ∈ l, digit c) → parseUintM M acc l = if valD acc l ≤ M then .ok (valD acc l) else .range
  | [], acc, ha, _ => by unfold parseUintM valD; rw [if_pos ha]
  | c :: r, acc, ha, hd => by
    have hc := hd c List.mem_cons_self
    have hge := valD_ge (acc * 10 + (c.toNat - 48)) r
    unfold digit at hc
    unfold parseUintM valD
    rw [if_pos hc]
    by_cases h1 : 1844674407370955162 ≤ acc
    · rw [if_pos h1, if_neg (by omega)]
    · rw [if_neg h1]
      by_cases h2 : M < acc * 10 + (c.toNat - 48)
      · rw [if_pos h2, if_neg (by omega)]
      · rw [if_neg h2]
        exact parseUintM_digits hM (by omega) (fun c hc => hd c (List.mem_cons_of_mem _ hc))
theorem toNat_ofNat {k : Nat} (h : k < 10) : (UInt8.ofNat (48 + k)).toNat = 48 + k := by
  simp [UInt8.toNat_ofNat']; omega
theorem ofNat_digit {c : UInt8} (h : digit c) : UInt8.ofNat (48 + (c.toNat - 48)) = c := by
  unfold digit at h
  rw [show 48 + (c.toNat - 48) = c.toNat by omega]; exact UInt8.ofNat_toNat
theorem dec_digits (u : Nat) : (∀ c ∈ decDigits u, digit c) ∧ valD 0 (decDigits u) = u ∧ decDigits u ≠ [] ∧ (0 < u → ∃ c r, decDigits u = c :: r ∧ c ≠ 48) := by
  induction u using Nat.strongRecOn with
  | ind u ih =>
    rw [decDigits]
    by_cases h : u < 10
    · rw [dif_pos h]
      have := toNat_ofNat h
      refine ⟨fun c hc => ?_, ?_, by simp, fun h0 => ⟨_, [], rfl, fun e => ?_⟩⟩
      · rw [List.mem_singleton] at hc; subst hc; unfold digit; omega
      · rw [show valD 0 [UInt8.ofNat (48 + u)] = 0 * 10 + ((UInt8.ofNat (48 + u)).toNat - 48) from rfl, this]; omega
      · rw [e] at this
        have h48 : (48 : UInt8).toNat = 48 := rfl
        omega
    · rw [dif_neg h]
      obtain ⟨h1, h2, h3, h4⟩ := ih (u / 10) (by omega)
      have := toNat_ofNat (k := u % 10) (by omega)
      refine ⟨fun c hc => ?_, ?_, by simp, fun _ => ?_⟩
      · rcases List.mem_append.1 hc with hc | hc
        · exact h1 c hc
        · rw [List.mem_singleton] at hc; subst hc; unfold digit; omega
      · rw [valD_app, h2, show valD (u / 10) [UInt8.ofNat (48 + u % 10)] = u / 10 * 10 + ((UInt8.ofNat (48 + u % 10)).toNat - 48) from rfl, this]; omega
      · obtain ⟨c, r, e, hc⟩ := h4 (by omega)
        exact ⟨c, r ++ [UInt8.ofNat (48 + u % 10)], by rw [e]; rfl, hc⟩
theorem dec_zero : decDigits 0 = [48] := by rw [decDigits, dif_pos (by omega)]; rfl
/-- Digits with no needless zero ahead are a number's. -/
theorem dec_of_digits : ∀ (n : Nat) (l : List UInt8), l.length = n → (∀ c ∈ l, digit c) → l ≠ [] → (l.head? = some 48 → l = [48]) → decDigits (valD 0 l) = l := by
  intro n
  induction n with
  | zero => intro l hl _ hne; exact absurd (List.eq_nil_of_length_eq_zero hl) hne
  | succ n ih =>
    intro l hl hd hne hz
    obtain ⟨init, d, rfl⟩ : ∃ init d, l = init ++ [d] := ⟨l.dropLast, l.getLast hne, (List.dropLast_concat_getLast hne).symm⟩
    have hdd := hd d (by simp)
    have hv : valD 0 (init ++ [d]) = valD 0 init * 10 + (d.toNat - 48) := by rw [valD_app]; rfl
    have hdn : d.toNat - 48 < 10 := by unfold digit at hdd; omega
    rw [hv]
    cases init with
    | nil =>
      show decDigits (0 * 10 + (d.toNat - 48)) = [d]
      rw [Nat.zero_mul, Nat.zero_add, decDigits, dif_pos hdn, ofNat_digit hdd]
    | cons c r =>
      have hc : c ≠ 48 := fun e => by
        subst e
        have := hz rfl
        simp at this
      have hi := ih (c :: r) (by simpa using hl) (fun x hx => hd x (List.mem_append_left _ hx)) (by simp) (fun h => absurd (by simpa using h) hc)
      have hpos : 1 ≤ valD 0 (c :: r) := by
        have h1 := hd c (by simp)
        have h2 := valD_ge (0 * 10 + (c.toNat - 48)) r
        have : c.toNat ≠ 48 := fun e => hc (by rw [← UInt8.ofNat_toNat (x := c), e]; rfl)
        unfold digit at h1
        show 1 ≤ valD (0 * 10 + (c.toNat - 48)) r
        omega
      rw [decDigits, dif_neg (by omega), show (valD 0 (c :: r) * 10 + (d.toNat - 48)) / 10 = valD 0 (c :: r) by omega, show (valD 0 (c :: r) * 10 + (d.toNat - 48)) % 10 = d.toNat - 48 by omega, hi, ofNat_digit hdd]

/-- A text's digits: behind a '-', if there is one. -/
def digitsOf (l : List UInt8) : List UInt8 := if l.head? = some 45 then l.tail else l
structure good (l : List UInt8) : Prop where
  all : ∀ c ∈ digitsOf l, digit c
  ne : digitsOf l ≠ []
  zero : (digitsOf l).head? = some 48 → l = [48]
def inR (v : Int) : Prop := -9223372036854775808 ≤ v ∧ v ≤ 9223372036854775807
theorem pU {l : List UInt8} (h1 : ∀ c ∈ l, digit c) (h2 : l ≠ []) : parseUintB 64 l = if valD 0 l ≤ 18446744073709551615 then .ok (valD 0 l) else .range := by
  unfold parseUintB
  rw [if_neg h2]
  exact parseUintM_digits (M := 2 ^ 64 - 1) (by omega) (by omega) h1
theorem parse_good {l : List UInt8} (hg : good l) : parseIntB 64 l = (if l.head? = some 45 then (if valD 0 (digitsOf l) ≤ 9223372036854775808 then .ok (-(valD 0 (digitsOf l) : Int)) else .range) else (if valD 0 (digitsOf l) ≤ 9223372036854775807 then .ok (valD 0 (digitsOf l) : Int) else .range)) := by
  obtain ⟨h1, h2, h3⟩ := hg
  cases l with
  | nil => exact absurd rfl h2
  | cons c r =>
    by_cases hc : c = 45
    · subst hc
      have e : digitsOf (45 :: r) = r := rfl
      rw [e] at h1 h2 ⊢
      rw [parseIntB_minus, pU h1 h2, if_pos (show (45 :: r).head? = some 45 from rfl)]
      by_cases hv : valD 0 r ≤ 18446744073709551615
      · rw [if_pos hv]
        show (if 2 ^ (64 - 1) < valD 0 r then NumEnd.range else .ok (-(valD 0 r : Int))) = _
        by_cases h9 : valD 0 r ≤ 9223372036854775808
        · rw [if_pos h9, if_neg (by simp; omega)]
        · rw [if_neg h9, if_pos (by simp; omega)]
      · rw [if_neg hv, if_neg (by omega)]; rfl
    · have hh : ¬ (c :: r).head? = some 45 := by simpa using hc
      have e : digitsOf (c :: r) = c :: r := by unfold digitsOf; rw [if_neg hh]
      rw [e] at h1 h2 ⊢
      have hcd := h1 c List.mem_cons_self
      unfold digit at hcd
      rw [parseIntB_plain 64 c r (by omega) (by omega), pU h1 h2, if_neg hh]
      by_cases hv : valD 0 (c :: r) ≤ 18446744073709551615
      · rw [if_pos hv]
        show (if 2 ^ (64 - 1) ≤ valD 0 (c :: r) then NumEnd.range else .ok (valD 0 (c :: r) : Int)) = _
        by_cases h9 : valD 0 (c :: r) ≤ 9223372036854775807
        · rw [if_pos h9, if_neg (by simp; omega)]
        · rw [if_neg h9, if_pos (by simp; omega)]
      · rw [if_neg hv, if_neg (by omega)]; rfl
theorem itoa_good (v : Int) (hv : inR v) : good (itoa v) ∧ parseIntB 64 (itoa v) = .ok v := by
  obtain ⟨v0, v1⟩ := hv
  by_cases h : v < 0
  · have e : itoa v = 45 :: decDigits v.natAbs := by unfold itoa; rw [if_pos h]
    obtain ⟨d1, d2, d3, d4⟩ := dec_digits v.natAbs
    have hd : digitsOf (45 :: decDigits v.natAbs) = decDigits v.natAbs := rfl
    rw [e]
    have hg : good (45 :: decDigits v.natAbs) := ⟨by rw [hd]; exact d1, by rw [hd]; exact d3, fun hz => by
      rw [hd] at hz
      obtain ⟨c, r, e2, hc⟩ := d4 (by omega)
      rw [e2] at hz
      exact absurd (by simpa using hz) hc⟩
    refine ⟨hg, ?_⟩
    rw [parse_good hg, hd, d2, if_pos (show (45 :: decDigits v.natAbs).head? = some 45 from rfl), if_pos (by omega)]
    congr 1; omega
  · have e : itoa v = decDigits v.toNat := by unfold itoa; rw [if_neg h]
    obtain ⟨d1, d2, d3, d4⟩ := dec_digits v.toNat
    have hh : ¬ (decDigits v.toNat).head? = some 45 := by
      intro hh
      have := d1 45 (List.mem_of_mem_head? hh)
      unfold digit at this; simp at this
    have hd : digitsOf (decDigits v.toNat) = decDigits v.toNat := by unfold digitsOf; rw [if_neg hh]
    rw [e]
    have hg : good (decDigits v.toNat) := ⟨by rw [hd]; exact d1, by rw [hd]; exact d3, fun hz => by
      rw [hd] at hz
      by_cases h0 : v.toNat = 0
      · rw [h0]; exact dec_zero
      · obtain ⟨c, r, e2, hc⟩ := d4 (by omega)
        rw [e2] at hz
        exact absurd (by simpa using hz) hc⟩
    refine ⟨hg, ?_⟩
    rw [parse_good hg, hd, d2, if_neg hh, if_pos (by omega)]
    congr 1; omega
theorem good_itoa {l : List UInt8} {v : Int} (hg : good l) (hp : parseIntB 64 l = .ok v) : l = itoa v ∧ inR v := by
  rw [parse_good hg] at hp
  obtain ⟨h1, h2, h3⟩ := hg
  by_cases hh : l.head? = some 45
  · rw [if_pos hh] at hp
    obtain ⟨r, rfl⟩ : ∃ r, l = 45 :: r := by
      cases l with
      | nil => cases hh
      | cons c r => simp at hh; exact ⟨r, by rw [hh]⟩
    have e : digitsOf (45 :: r) = r := rfl
    rw [e] at h1 h2 h3 hp
    split at hp
    · rename_i h9
      cases hp
      have hd := dec_of_digits r.length r rfl h1 h2 (fun hz => by
        have := h3 hz
        simp at this)
      have hpos : 0 < valD 0 r := by
        apply Nat.pos_of_ne_zero
        intro h0
        rw [h0] at hd
        have : r = [48] := by rw [← hd]; exact dec_zero
        have h4 := h3 (by rw [this]; rfl)
        simp at h4
      refine ⟨?_, by unfold inR; omega⟩
      unfold itoa
      rw [if_pos (by omega), show (-(valD 0 r : Int)).natAbs = valD 0 r by omega, hd]
    · cases hp
  · rw [if_neg hh] at hp
    have e : digitsOf l = l := by unfold digitsOf; rw [if_neg hh]
    rw [e] at h1 h2 h3 hp
    split at hp
    · cases hp
      have hd := dec_of_digits l.length l rfl h1 h2 h3
      refine ⟨?_, by unfold inR; omega⟩
      unfold itoa
      rw [if_neg (by omega), show ((valD 0 l : Int)).toNat = valD 0 l by omega, hd]
    · cases hp
theorem itoa_inj {a b : Int} (ha : inR a) (hb : inR b) (h : itoa a = itoa b) : a = b := by
  have h1 := (itoa_good a ha).2
  have h2 := (itoa_good b hb).2
  rw [h, h2] at h1
  cases h1; rfl
end Go.Proofs.YtmihgfhpmnomoaaDoor
