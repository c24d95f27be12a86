/- Calls: the document's Number and words. Conditions: none. -/
import Derived.Test.YtmihgfhpmnomoaaDoorCaS
import Derived.Test.YtmihgfhpmnomoaaDoorCaJ
namespace Go.Proofs.YtmihgfhpmnomoaaDoor
open Go.Vc Go.Lib
set_option linter.unusedSimpArgs false
set_option linter.unusedVariables false
set_option maxRecDepth 100000

theorem valD_lt (l : List UInt8) : ∀ (acc : Nat), (∀ c ∈ l, digit c) → valD acc l < (acc + 1) * 10 ^ l.length := by
  induction l with
  | nil => intro acc _; rw [List.length_nil, Nat.pow_zero, Nat.mul_one]; exact Nat.lt_succ_self _
  | cons c r ih =>
    intro acc h
    have h1 := h c List.mem_cons_self
    have h2 := ih (acc * 10 + (c.toNat - 48)) fun x hx => h x (List.mem_cons_of_mem _ hx)
    unfold digit at h1
    have e : valD acc (c :: r) = valD (acc * 10 + (c.toNat - 48)) r := rfl
    rw [e, List.length_cons, Nat.pow_succ]
    generalize 10 ^ r.length = P at h2 ⊢
    have h3 : (acc * 10 + (c.toNat - 48) + 1) * P ≤ ((acc + 1) * 10) * P := Nat.mul_le_mul_right _ (by omega)
    have h4 : ((acc + 1) * 10) * P = (acc + 1) * (P * 10) := by rw [Nat.mul_assoc, Nat.mul_comm 10]
    omega
theorem wrap_i64 (x : Int) : IntKind.wrap .i64 x = (x + 9223372036854775808) % 18446744073709551616 - 9223372036854775808 := by
  have e : IntKind.wrap .i64 x = if x % 18446744073709551616 ≥ 9223372036854775808 then x % 18446744073709551616 - 18446744073709551616 else x % 18446744073709551616 := by
    by_cases h : x % 18446744073709551616 ≥ 9223372036854775808
    · rw [if_pos h]
      show (if (true && decide (x % 18446744073709551616 ≥ 9223372036854775808)) = true then x % 18446744073709551616 - 18446744073709551616 else _) = _
      rw [decide_eq_true h]; rfl
    · rw [if_neg h]
      show (if (true && decide (x % 18446744073709551616 ≥ 9223372036854775808)) = true then _ else x % 18446744073709551616) = _
      rw [decide_eq_false h]; rfl
  rw [e]
  split <;> omega
theorem nDigits_lt : ∀ (k u : Nat), u < 10 ^ (k + 1) → nDigits u ≤ k + 1
  | 0, u, h => by rw [nDigits_small (by simpa using h)]; exact Nat.le_refl _
  | k + 1, u, h => by
    by_cases hu : u < 10
    · rw [nDigits_small hu]; omega
    · rw [nDigits_big hu]
      have := nDigits_lt k (u / 10) (by rw [Nat.pow_succ] at h; omega)
      omega
/-- What a numeral's digits are. -/
theorem itoa_digits (k : Int) (hk : inR k) : digitsOf (itoa k) = decDigits k.natAbs ∧ (digitsOf (itoa k)).length ≤ 19 ∧ digitsOf (itoa k) ≠ [] ∧ (∀ c ∈ digitsOf (itoa k), digit c) ∧ valD 0 (digitsOf (itoa k)) = k.natAbs ∧ (k < 0 ↔ (digitsOf (itoa k)).length < (itoa k).length) := by
  obtain ⟨k0, k1⟩ := hk
  obtain ⟨d1, d2, d3, d4⟩ := dec_digits k.natAbs
  have e : digitsOf (itoa k) = decDigits k.natAbs := by
    unfold itoa digitsOf
    by_cases h : k < 0
    · rw [if_pos h]; rfl
    · rw [if_neg h, show k.toNat = k.natAbs by omega]
      rw [if_neg]
      intro hh
      cases hd : decDigits k.natAbs with
      | nil => exact d3 hd
      | cons c r =>
        rw [hd] at hh d1
        simp only [List.head?_cons, Option.some.injEq] at hh
        have := d1 c List.mem_cons_self
        rw [hh] at this
        unfold digit at this
        have h45 : (45 : UInt8).toNat = 45 := rfl
        omega
  have hl : (decDigits k.natAbs).length ≤ 19 := by rw [decDigits_length]; exact nDigits_lt 18 _ (by omega)
  refine ⟨e, by rw [e]; exact hl, by rw [e]; exact d3, by rw [e]; exact d1, by rw [e]; exact d2, ?_⟩
  rw [e]
  unfold itoa
  by_cases h : k < 0
  · rw [if_pos h]; simp [h]
  · rw [if_neg h, show k.toNat = k.natAbs by omega]; simp [h]

/-- Words: what stands between blanks; the last one goes up to the end. -/
def wordsA : Nat → List UInt8 → List UInt8 → List (List UInt8)
  | _, acc, [] => [acc]
  | 0, acc, l => [acc ++ l]
  | k + 1, acc, c :: r => if c = 32 then acc :: wordsA k [] r else wordsA (k + 1) (acc ++ [c]) r
theorem wordsA_zero (acc l : List UInt8) : wordsA 0 acc l = [acc ++ l] := by
  cases l <;> simp [wordsA]
theorem wordsA_none : ∀ {k : Nat} {l acc : List UInt8}, (32 : UInt8) ∉ l → wordsA k acc l = [acc ++ l]
  | 0, l, acc, _ => wordsA_zero _ _
  | k + 1, [], acc, _ => by simp [wordsA]
  | k + 1, c :: r, acc, h => by
    have h1 : c ≠ 32 := fun e => h (by rw [e]; exact List.mem_cons_self)
    rw [show wordsA (k + 1) acc (c :: r) = wordsA (k + 1) (acc ++ [c]) r by simp [wordsA, h1], wordsA_none fun hm => h (List.mem_cons_of_mem _ hm)]
    simp
theorem wordsA_cons {k : Nat} : ∀ {p q acc : List UInt8}, (32 : UInt8) ∉ p → wordsA (k + 1) acc (p ++ 32 :: q) = (acc ++ p) :: wordsA k [] q
  | [], q, acc, _ => by simp [wordsA]
  | c :: r, q, acc, h => by
    have h1 : c ≠ 32 := fun e => h (by rw [e]; exact List.mem_cons_self)
    rw [show wordsA (k + 1) acc (c :: r ++ 32 :: q) = wordsA (k + 1) (acc ++ [c]) (r ++ 32 :: q) by simp [wordsA, h1], wordsA_cons fun hm => h (List.mem_cons_of_mem _ hm)]
    simp
/-- A text's words, with blanks between them, are the text. -/
def joinL : List (List UInt8) → List UInt8
  | [] => []
  | [a] => a
  | a :: r => a ++ 32 :: joinL r
theorem wordsA_ne {k : Nat} {acc l : List UInt8} : wordsA k acc l ≠ [] := by
  intro h
  have := congrArg List.length h
  revert this
  induction l generalizing k acc with
  | nil => cases k <;> simp [wordsA]
  | cons c r ih =>
    cases k with
    | zero => simp [wordsA]
    | succ k =>
      unfold wordsA
      split
      · simp
      · intro h2; exact ih (List.length_eq_zero_iff.1 (by simpa using h2)) h2
theorem joinL_words : ∀ (l : List UInt8) (k : Nat) (acc : List UInt8), joinL (wordsA k acc l) = acc ++ l
  | [], k, acc => by cases k <;> simp [wordsA, joinL]
  | c :: r, 0, acc => by simp [wordsA, joinL]
  | c :: r, k + 1, acc => by
    unfold wordsA
    split
    · rename_i hc
      have h1 := joinL_words r k []
      cases hw : wordsA k [] r with
      | nil => exact absurd hw wordsA_ne
      | cons x y => rw [hw] at h1; show acc ++ 32 :: joinL (x :: y) = _; rw [h1, hc]; rfl
    · rw [joinL_words r (k + 1) (acc ++ [c])]; simp

section
variable {e w : World} {m : Hp} {L : List HP}
theorem elStr : ElT Tryd.prog 61 9 Enc.str 16 := by
  refine ⟨by kernel_rfl, ?_⟩
  have h : (Tryd.prog.info? 9).map (fun i => (i.zero.isSome, i.size, i.bytes, (i.zero.getD .nilIface).cells.size)) = some (true, 1, 16, 1) := by kernel_rfl
  cases hi : Tryd.prog.info? 9 with
  | none => rw [hi] at h; cases h
  | some i =>
    rw [hi] at h
    simp only [Option.map_some, Option.some.injEq, Prod.mk.injEq] at h
    obtain ⟨h1, h2, h3, h4⟩ := h
    obtain ⟨z, hz⟩ := Option.isSome_iff_exists.1 h1
    exact ⟨i, z, rfl, hz, h2, h3, by rw [hz] at h4; exact h4⟩

theorem ref21_words_sp (H : St e m w L) (s : ByteArray) (K : Nat) (hK : K ≤ 10) (hs : s.size ≤ 1000000) : Calls Tryd.prog 28 #[.string s, .int .i64 (K + 1 : Nat)] w
    (Ret fun v w' => ∃ a c, v = .slice a (wordsA K [] s.data.toList).length c ∧ St e m w' (own Enc.str 9 a c ((wordsA K [] s.data.toList).map baL) :: L)) := by
  apply purlinref21_words.calls
  unfold purlinref21_words.F
  obtain ⟨R, hR⟩ : ∃ R : Value → World → Prop, R = fun v w' => ∃ a c, v = .slice a (wordsA K [] s.data.toList).length c ∧ St e m w' (own Enc.str 9 a c ((wordsA K [] s.data.toList).map baL) :: L) := ⟨_, rfl⟩
  rw [← hR]
  refine H.newOwn (E := Enc.str) ([] : List ByteArray) (by simp) (fun b w H => ?_)
  obtain ⟨l, hl⟩ : ∃ l, l = s.data.toList := ⟨_, rfl⟩
  have hsl : s.size = l.length := by rw [hl]; exact ba_size s
  refine ⟨fun n A N C f i w' => ∃ (out : List (List UInt8)) (fr k : Nat), N = out.length ∧ f = fr ∧ i = k ∧ fr ≤ k ∧ k ≤ l.length ∧ out.length ≤ K ∧ wordsA K [] l = out ++ wordsA (K - out.length) ((l.drop fr).take (k - fr)) (l.drop k) ∧ n = l.length - k ∧
    St e m w' (own Enc.str 9 A C (out.map baL) :: L), ⟨_, [], 0, 0, rfl, rfl, rfl, Nat.le_refl _, Nat.zero_le _, Nat.zero_le _, by simp, rfl, H⟩, ?_⟩
  rintro n9 dead w2 A N C f i ⟨out, fr, k, rfl, rfl, rfl, h1, h2, h3, h4, rfl, H⟩
  unfold purlinref21_words.L0
  have last : wordsA K [] l = out ++ [l.drop fr] → purlinref21_words.K0 s R A out.length C fr w2 := by
    intro hw
    unfold purlinref21_words.K0
    refine ⟨by omega, by omega, ?_⟩
    have ee : s.extract (fr : Int).toNat s.size = baL (l.drop fr) := by
      rw [toNat_nat, ← baL_of s, extract_baL, ← hl, baL_size, List.take_of_length_le (by simp)]
    rw [ee]
    refine H.app1 elStr (baL (l.drop fr)) (fun b2 A2 C2 w H => ?_)
    rw [hR, ← hl, hw]
    refine ⟨A2, C2, by simp, by simpa using H⟩
  refine br_dec (fun g => ?_) fun g => last ?_
  · have ek : IntKind.wrap .i64 (((K + 1 : Nat) : Int) - 1) = K := by rw [show (((K + 1 : Nat) : Int) - 1) = (K : Int) by omega]; exact wrap64_nat (by omega)
    rw [ek]
    have hkl : k < l.length := by omega
    refine br_dec (fun g2 => ?_) fun g2 => last ?_
    · refine ⟨by omega, by omega, ?_⟩
      obtain ⟨c, hc⟩ : ∃ c, l[k]? = some c := ⟨_, List.getElem?_eq_getElem hkl⟩
      have hget : s.data.getD (k : Int).toNat 0 = c := by
        rw [toNat_nat]
        have : s.data[k]? = some c := by rw [← Array.getElem?_toList, ← hl]; exact hc
        simp [this]
      have hdr : l.drop k = c :: l.drop (k + 1) := by
        rw [List.drop_eq_getElem_cons hkl]
        congr 1
        rw [List.getElem?_eq_getElem hkl] at hc; exact Option.some.inj hc
      rw [hget]
      obtain ⟨j, hj⟩ : ∃ j, K - out.length = j + 1 := ⟨K - out.length - 1, by omega⟩
      rw [hj, hdr] at h4
      have ek1 : IntKind.wrap .i64 ((k : Int) + 1) = ((k + 1 : Nat) : Int) := by rw [← Int.natCast_succ, wrap64_nat (by omega)]
      rw [ek1]
      refine br_intro (fun g3 => ?_) fun g3 => ?_
      · have hc32 : c = 32 := by
          have : (c.toNat : Int) = 32 := by simpa using g3
          rw [← UInt8.ofNat_toNat (x := c), show c.toNat = 32 by omega]; rfl
        subst hc32
        refine ⟨by omega, by omega, by omega, by rw [toNat_nat]; omega, ?_⟩
        have ee : s.extract (fr : Int).toNat (k : Int).toNat = baL ((l.drop fr).take (k - fr)) := by
          rw [toNat_nat, toNat_nat, ← baL_of s, extract_baL, ← hl]
        rw [ee]
        refine H.app1 elStr (baL ((l.drop fr).take (k - fr))) (fun b2 A2 C2 w H => ?_)
        rw [show wordsA (j + 1) ((l.drop fr).take (k - fr)) ((32 : UInt8) :: l.drop (k + 1)) = ((l.drop fr).take (k - fr)) :: wordsA j [] (l.drop (k + 1)) by simp [wordsA]] at h4
        refine ⟨l.length - (k + 1), by omega, out ++ [(l.drop fr).take (k - fr)], k + 1, k + 1, by simp, rfl, rfl, Nat.le_refl _, by omega, by simp; omega, ?_, rfl, by simpa using H⟩
        rw [h4, List.length_append, List.length_singleton, show K - (out.length + 1) = j by omega]; simp
      · have hc32 : c ≠ 32 := fun h => by subst h; simp at g3
        rw [show wordsA (j + 1) ((l.drop fr).take (k - fr)) (c :: l.drop (k + 1)) = wordsA (j + 1) ((l.drop fr).take (k - fr) ++ [c]) (l.drop (k + 1)) by simp [wordsA, hc32]] at h4
        refine ⟨l.length - (k + 1), by omega, out, fr, k + 1, rfl, rfl, rfl, by omega, by omega, h3, ?_, rfl, H⟩
        rw [h4, hj, show k + 1 - fr = (k - fr) + 1 by omega, List.take_add_one]
        rw [List.getElem?_drop, show fr + (k - fr) = k by omega, hc]; rfl
    · rw [h4, show K - out.length = 0 by omega, wordsA_zero]
      congr 2
      rw [show l.drop k = (l.drop fr).drop (k - fr) by rw [List.drop_drop, show fr + (k - fr) = k by omega], List.take_append_drop]
  · rw [h4, show k = l.length by omega, List.drop_length]
    rw [show ∀ q acc, wordsA q acc [] = [acc] by intro q acc; cases q <;> simp [wordsA]]
    rw [List.take_of_length_le (by simp)]

theorem ref21_Number_sp (H : St e m w L) (s : ByteArray) (hs : s.size ≤ 1000000) : Calls Tryd.prog 29 #[.string s] w (Ret fun v w' => ∃ (n : Int) (ok : Bool), v = .tuple #[.int .i64 n, .bool ok] ∧ numR s n ok ∧ St e m w' L) := by
  apply purlinref21_Number.calls
  unfold purlinref21_Number.F
  obtain ⟨R, hR⟩ : ∃ R : Value → World → Prop, R = fun v w' => ∃ (n : Int) (ok : Bool), v = .tuple #[.int .i64 n, .bool ok] ∧ numR s n ok ∧ St e m w' L := ⟨_, rfl⟩
  rw [← hR]
  obtain ⟨l, hl⟩ : ∃ l, l = s.data.toList := ⟨_, rfl⟩
  have hsl : s.size = l.length := by rw [hl]; exact ba_size s
  have bad : ∀ {w2 : World} {n : Int}, St e m w2 L → (∀ k, inR k → l ≠ itoa k) → R (.tuple #[.int .i64 n, .bool false]) w2 := by
    intro w2 n H hn
    rw [hR]
    exact ⟨n, false, rfl, ⟨fun h => (by cases h), fun _ k hk he => hn k hk (hl.trans he)⟩, H⟩
  have key : ∀ d : List UInt8, d = digitsOf l → (d.length < l.length ↔ l.head? = some 45) → purlinref21_Number.K0 s R (baL d) w := by
    intro d hd hneg
    unfold purlinref21_Number.K0
    refine br_intro (fun g => bad H fun k hk he => ?_) fun g => ?_
    · rw [ba_beq] at g
      have : d = [] := by
        have := congrArg (fun x : ByteArray => x.data.toList) (of_decide_eq_true g)
        simpa [baL] using this
      rw [he] at hd
      exact (itoa_digits k hk).2.2.1 (hd ▸ this)
    rw [baL_size]
    refine br_dec (fun g => bad H fun k hk he => ?_) fun g19 => ?_
    · rw [he] at hd
      have := (itoa_digits k hk).2.1
      rw [← hd] at this; omega
    refine ⟨fun n u i w' => ∃ k : Nat, i = k ∧ k ≤ d.length ∧ (∀ c ∈ d.take k, digit c) ∧ u = (valD 0 (d.take k) : Nat) ∧ n = d.length - k ∧ St e m w' L, ⟨d.length - 0, 0, rfl, Nat.zero_le _, fun c hc => by simp at hc, by rw [List.take_zero]; rfl, rfl, H⟩, ?_⟩
    rintro n9 dead w2 u i ⟨k, rfl, hk, hall, rfl, rfl, H⟩
    unfold purlinref21_Number.L0
    rw [baL_size]
    have hlt := valD_lt (d.take k) 0 hall
    have hp : 10 ^ (d.take k).length ≤ 10 ^ 19 := Nat.pow_le_pow_right (by omega) (by simp; omega)
    have hp2 : (10 : Nat) ^ 19 = 10000000000000000000 := by decide
    refine br_dec (fun g => ?_) fun g => ?_
    · have hkl : k < d.length := by omega
      obtain ⟨c, hc⟩ : ∃ c, d[k]? = some c := ⟨_, List.getElem?_eq_getElem hkl⟩
      have hget : (baL d).data.getD (k : Int).toNat 0 = c := by
        rw [toNat_nat]
        have : (baL d).data[k]? = some c := by rw [← Array.getElem?_toList]; exact hc
        simp [this]
      have hmem : c ∈ digitsOf l := by rw [← hd]; exact List.mem_of_getElem? hc
      rw [hget]
      have nodig : ¬ digit c → ∀ k, inR k → l ≠ itoa k := fun hn k hk he => hn ((itoa_digits k hk).2.2.2.1 c (he ▸ hmem))
      refine ⟨by omega, by omega, br_dec (fun g2 => bad H (nodig fun h => by unfold digit at h; omega)) fun g2 => ?_⟩
      refine ⟨by omega, by omega, br_dec (fun g3 => bad H (nodig fun h => by unfold digit at h; omega)) fun g3 => ?_⟩
      refine ⟨by omega, by omega, ?_⟩
      have ht : d.take (k + 1) = d.take k ++ [c] := by rw [List.take_add_one, hc]; rfl
      have hdig : digit c := by unfold digit; omega
      have hall2 : ∀ x ∈ d.take (k + 1), digit x := fun x hx => by
        rw [ht] at hx
        rcases List.mem_append.1 hx with hx | hx
        · exact hall x hx
        · rw [List.mem_singleton.1 hx]; exact hdig
      have hv : valD 0 (d.take (k + 1)) = valD 0 (d.take k) * 10 + (c.toNat - 48) := by rw [ht, valD_app]; rfl
      have hlt2 := valD_lt (d.take (k + 1)) 0 hall2
      have hp3 : 10 ^ (d.take (k + 1)).length ≤ 10 ^ 19 := Nat.pow_le_pow_right (by omega) (by simp; omega)
      refine ⟨d.length - (k + 1), by omega, k + 1, by rw [← Int.natCast_succ, wrap64_nat (by omega)], by omega, hall2, ?_, rfl, H⟩
      have e1 : IntKind.wrap .u8 ((c.toNat : Int) - 48) = ((c.toNat - 48 : Nat) : Int) := by
        simp only [IntKind.wrap, IntKind.signed, IntKind.bits, Bool.false_and, Bool.false_eq_true, if_false]; omega
      have e2 : IntKind.wrap .u64 (10 * (valD 0 (d.take k) : Int)) = ((10 * valD 0 (d.take k) : Nat) : Int) := by
        rw [show 10 * (valD 0 (d.take k) : Int) = ((10 * valD 0 (d.take k) : Nat) : Int) by simp]; exact wrap_u64 (by omega)
      have e3 : IntKind.wrap .u64 ((c.toNat - 48 : Nat) : Int) = ((c.toNat - 48 : Nat) : Int) := wrap_u64 (by unfold digit at hdig; omega)
      rw [e1, e2, e3, ← Int.natCast_add, wrap_u64 (by omega), hv]; congr 1; omega
    · have hkd : k = d.length := by omega
      subst hkd
      rw [List.take_length] at hlt hp hall ⊢
      obtain ⟨u, hu⟩ : ∃ u, u = valD 0 d := ⟨_, rfl⟩
      rw [← hu] at hlt ⊢
      have fin : ∀ (n : Int) (w2 : World), St e m w2 L → inR n → (∀ k, inR k → l = itoa k → n = k) → R (.tuple #[.int .i64 n, .bool ((baL (itoa n)).toList == s.toList)]) w2 := by
        intro n w2 H hn huni
        rw [hR, ba_beq]
        refine ⟨n, _, rfl, ⟨fun h => ⟨?_, hn⟩, fun h k hk he => ?_⟩, H⟩
        · have := congrArg (fun x : ByteArray => x.data.toList) (of_decide_eq_true h)
          exact this.symm
        · have h := of_decide_eq_false h
          have := huni k hk (hl.trans he)
          subst this
          exact h (by rw [← he, baL_of])
      have w64 : ∀ x : Int, inR (IntKind.wrap .i64 x) := fun x => by
        unfold inR; rw [wrap_i64]; omega
      have ku : ∀ k, inR k → l = itoa k → u = k.natAbs ∧ (k < 0 ↔ d.length < l.length) := fun k hk he => by
        obtain ⟨_, _, _, _, i5, i6⟩ := itoa_digits k hk
        rw [hu, hd, he]; exact ⟨i5, i6⟩
      refine br_dec (fun g4 => ?_) fun g4 => ?_
      · refine Calls.ret (ref21_Show_sp H (w64 _)) ?_
        rintro v w4 ⟨rfl, H⟩
        refine ⟨_, rfl, fin _ _ H (w64 _) fun k hk he => ?_⟩
        obtain ⟨i1, i2⟩ := ku k hk he
        have : k < 0 := i2.2 (by omega)
        unfold inR at hk
        rw [i1, wrap_i64]
        simp only [IntKind.wrap, IntKind.signed, IntKind.bits, Bool.false_and, Bool.false_eq_true, if_false]
        omega
      · refine Calls.ret (ref21_Show_sp H (w64 _)) ?_
        rintro v w4 ⟨rfl, H⟩
        refine ⟨_, rfl, fin _ _ H (w64 _) fun k hk he => ?_⟩
        obtain ⟨i1, i2⟩ := ku k hk he
        have : ¬ k < 0 := fun h => g4 (by have := i2.1 h; omega)
        unfold inR at hk
        rw [i1, wrap_i64]
        omega
  have whole : (l.head? ≠ some 45) → purlinref21_Number.K0 s R s w := by
    intro h
    have := key l (by unfold digitsOf; rw [if_neg h]) ⟨fun g => absurd g (Nat.lt_irrefl _), fun g => absurd g h⟩
    rw [hl, baL_of] at this; exact this
  refine br_dec (fun g => ?_) fun g => whole (by rw [show l = [] from List.length_eq_zero_iff.1 (by omega)]; simp)
  refine ⟨by omega, by omega, ?_⟩
  cases hcs : l with
  | nil => rw [hcs, List.length_nil] at hsl; omega
  | cons c r =>
    have hget : s.data.getD (0 : Int).toNat 0 = c := by
      have : s.data[0]? = some c := by rw [← Array.getElem?_toList, ← hl, hcs]; rfl
      simp [this]
    rw [hget]
    refine br_intro (fun g2 => ?_) fun g2 => whole ?_
    · have hc : c = 45 := by
        have : (c.toNat : Int) = 45 := by simpa using g2
        rw [← UInt8.ofNat_toNat (x := c), show c.toNat = 45 by omega]; rfl
      subst hc
      refine ⟨by omega, by omega, ?_⟩
      have ee : s.extract (1 : Int).toNat s.size = baL r := by
        rw [← baL_of s, show (1 : Int).toNat = 1 from rfl, extract_baL, ← hl, hcs, baL_size]
        simp
      rw [ee]
      exact key r (by rw [hcs]; rfl) ⟨fun _ => by rw [hcs]; rfl, fun _ => by rw [hcs]; simp⟩
    · rw [hcs]
      intro h
      simp only [List.head?_cons, Option.some.injEq] at h
      subst h
      exact absurd g2 (by decide)
end
end Go.Proofs.YtmihgfhpmnomoaaDoor
