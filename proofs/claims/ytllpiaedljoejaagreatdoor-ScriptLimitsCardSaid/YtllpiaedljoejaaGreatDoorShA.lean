/- Bytes as a text of digits, and back: plain. Conditions: none. -/
import Derived.Test.YtllpiaedljoejaaGreatDoorVcSL3
import Derived.Test.YtllpiaedljoejaaGreatDoorVcInt
namespace Go.Proofs.YtllpiaedljoejaaGreatDoor
open Go.Vc
set_option linter.unusedSimpArgs false
set_option linter.unusedVariables false
set_option maxRecDepth 100000
def hexd (n : Nat) : UInt8 := if n < 10 then UInt8.ofNat (48 + n) else UInt8.ofNat (87 + n)
def hexL (l : List UInt8) : List UInt8 := l.flatMap fun x => [hexd (x.toNat / 16), hexd (x.toNat % 16)]
def dig (c : UInt8) : Option Nat := if 48 ≤ c.toNat ∧ c.toNat ≤ 57 then some (c.toNat - 48) else if 97 ≤ c.toNat ∧ c.toNat ≤ 102 then some (c.toNat - 87) else none
def unhexL : List UInt8 → Option (List UInt8)
  | [] => some []
  | [_] => none
  | x :: y :: r => match dig x, dig y, unhexL r with | some a, some b, some l => some (UInt8.ofNat (16 * a + b) :: l) | _, _, _ => none
def unhexB (t : List UInt8) : Option (List UInt8) := if t = [] then none else unhexL t
def ints (l : List UInt8) : List Int := l.map fun b => (b.toNat : Int)
theorem u8_lt (b : UInt8) : b.toNat < 256 := UInt8.toNat_lt b
theorem dig_hexd : ∀ n, n < 16 → dig (hexd n) = some n := by decide
theorem hexd_dig {c : UInt8} {n : Nat} (h : dig c = some n) : n < 16 ∧ hexd n = c := by
  unfold dig at h
  split at h
  · rename_i hc
    cases h
    refine ⟨by omega, ?_⟩
    unfold hexd
    rw [if_pos (by omega)]
    apply UInt8.toNat_inj.1
    rw [UInt8.toNat_ofNat_of_lt' (show 48 + (c.toNat - 48) < 256 by omega)]
    omega
  · split at h
    · rename_i hc
      cases h
      refine ⟨by omega, ?_⟩
      unfold hexd
      rw [if_neg (by omega)]
      apply UInt8.toNat_inj.1
      rw [UInt8.toNat_ofNat_of_lt' (show 87 + (c.toNat - 87) < 256 by omega)]
      omega
    · cases h
theorem unhex_hex : ∀ l : List UInt8, unhexL (hexL l) = some l
  | [] => rfl
  | x :: r => by
    have h := u8_lt x
    have e : hexL (x :: r) = hexd (x.toNat / 16) :: hexd (x.toNat % 16) :: hexL r := rfl
    rw [e]
    unfold unhexL
    rw [dig_hexd _ (by omega), dig_hexd _ (by omega), unhex_hex r]
    simp only
    congr 2
    apply UInt8.toNat_inj.1
    rw [UInt8.toNat_ofNat_of_lt' (show 16 * (x.toNat / 16) + x.toNat % 16 < 256 by omega)]
    omega
theorem hex_unhex : ∀ {t l : List UInt8}, unhexL t = some l → hexL l = t
  | [], l, h => by simp only [unhexL, Option.some.injEq] at h; subst h; rfl
  | [_], l, h => by cases h
  | x :: y :: r, l, h => by
    unfold unhexL at h
    split at h
    · rename_i a b l' h1 h2 h3
      cases h
      obtain ⟨a1, a2⟩ := hexd_dig h1
      obtain ⟨b1, b2⟩ := hexd_dig h2
      show hexd ((UInt8.ofNat (16 * a + b)).toNat / 16) :: hexd ((UInt8.ofNat (16 * a + b)).toNat % 16) :: hexL l' = _
      rw [UInt8.toNat_ofNat_of_lt' (show 16 * a + b < 256 by omega), hex_unhex h3]
      rw [show (16 * a + b) / 16 = a by omega, show (16 * a + b) % 16 = b by omega, a2, b2]
    · cases h
theorem unhex_len : ∀ {t l : List UInt8}, unhexL t = some l → t.length = 2 * l.length
  | [], l, h => by simp only [unhexL, Option.some.injEq] at h; subst h; rfl
  | [_], l, h => by cases h
  | x :: y :: r, l, h => by
    unfold unhexL at h
    split at h
    · rename_i a b l' h1 h2 h3
      cases h
      have := unhex_len h3
      simp only [List.length_cons]; omega
    · cases h
theorem unhex_bad : ∀ {t : List UInt8} {j : Nat} {c : UInt8}, t[j]? = some c → dig c = none → unhexL t = none
  | [], j, c, h, hd => by simp at h
  | [_], j, c, h, hd => rfl
  | x :: y :: r, 0, c, h, hd => by
    simp at h; subst h
    unfold unhexL
    rw [hd]
  | x :: y :: r, 1, c, h, hd => by
    simp at h; subst h
    unfold unhexL
    rw [hd]
    cases dig x <;> rfl
  | x :: y :: r, j + 2, c, h, hd => by
    simp only [List.getElem?_cons_succ] at h
    unfold unhexL
    rw [unhex_bad h hd]
    cases dig x <;> cases dig y <;> rfl
theorem unhex_odd : ∀ {t : List UInt8}, t.length % 2 = 1 → unhexL t = none
  | [], h => by simp at h
  | [_], h => rfl
  | x :: y :: r, h => by
    unfold unhexL
    rw [unhex_odd (t := r) (by simp only [List.length_cons] at h; omega)]
    cases dig x <;> cases dig y <;> rfl
/-- Where all are digits: what comes, byte by byte. -/
theorem unhex_ok : ∀ {t : List UInt8}, t.length % 2 = 0 → (∀ c ∈ t, (dig c).isSome) → unhexL t = some ((List.range (t.length / 2)).map fun i => UInt8.ofNat (16 * ((dig (t.getD (2 * i) 0)).getD 0) + (dig (t.getD (2 * i + 1) 0)).getD 0))
  | [], _, _ => rfl
  | [_], h, _ => by simp at h
  | x :: y :: r, h, hd => by
    obtain ⟨a, ha⟩ := Option.isSome_iff_exists.1 (hd x (by simp))
    obtain ⟨b, hb⟩ := Option.isSome_iff_exists.1 (hd y (by simp))
    have ih := unhex_ok (t := r) (by simp only [List.length_cons] at h; omega) (fun c hc => hd c (by simp [hc]))
    unfold unhexL
    rw [ha, hb, ih]
    simp only [List.length_cons]
    rw [show (r.length + 1 + 1) / 2 = r.length / 2 + 1 by omega, List.range_succ_eq_map]
    simp [ha, hb, List.getD, Nat.mul_add, Nat.add_right_comm]
theorem ba_beq' (x y : ByteArray) : (x.toList == y.toList) = decide (x = y) := by
  by_cases h : x = y
  · subst h; simp
  · have : x.toList ≠ y.toList := fun e => h (by
      have h1 : x.data.toList = y.data.toList := by simpa [ByteArray.toList_eq] using e
      cases x; cases y; simp at h1; rw [h1])
    simp [h, this]
end Go.Proofs.YtllpiaedljoejaaGreatDoor
