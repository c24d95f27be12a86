/- Bytes and digits: conversions; the mirror's digit, Hex and Unhex; the law. Conditions: none. -/
import Derived.Test.YtllpiaedljoejaaGreatDoorShD
import Derived.Test.YtllpiaedljoejaaGreatDoorSc3
import Derived.Test.YtllpiaedljoejaaGreatDoorSc4
import Derived.Test.YtllpiaedljoejaaGreatDoorXAw
import Derived.Laws.IdiomStrings
import Derived.Laws.BytesArg
namespace Go.Proofs.YtllpiaedljoejaaGreatDoor
open Go.Vc Go.Lib
set_option linter.unusedSimpArgs false
set_option linter.unusedVariables false
set_option maxRecDepth 100000
theorem ints_at {l : List UInt8} {j : Nat} (h : j < l.length) : (ints l)[j]? = some (l[j].toNat : Int) := by simp [ints, h]
theorem conv_str {w : World} {a : Option Addr} {n c : Nat} {l : List UInt8} (hs : SlR (Enc.int .u8) w a (ints l)) (hn : n = l.length) : (convert 28 9 (.slice a n c)).run Tryz.prog w = .ok (.string ⟨l.toArray⟩) w := by
  subst hn
  cases l with
  | nil =>
    cases a with
    | none => exact run_convert_bytes_nil w 28 5 (by kernel_rfl) (by kernel_rfl) 0 c _ (by kernel_rfl)
    | some a => exact run_convert_bytes_back (P := Tryz.prog) w 28 9 5 a c [] (by kernel_rfl) (by kernel_rfl) (by kernel_rfl) (fun j hj => absurd hj (by simp))
  | cons x r =>
    obtain ⟨ab, ao, rfl, _⟩ := hs 0 _ (ints_at (l := x :: r) (j := 0) (by simp))
    refine run_convert_bytes_back (P := Tryz.prog) w 28 9 5 ⟨ab, ao, none⟩ c (x :: r) (by kernel_rfl) (by kernel_rfl) (by kernel_rfl) (fun j hj => ?_)
    obtain ⟨b2, o2, e2, h2⟩ := hs j _ (ints_at hj)
    simp only [Option.some.injEq, Addr.mk.injEq, and_true] at e2
    obtain ⟨rfl, rfl⟩ := e2
    have h3 := h2 0 _ rfl
    have e3 : (⟨ab, ao, none⟩ : Addr).add j = ⟨ab, ao + j * 1 + 0, none⟩ := by unfold Addr.add; split <;> simp_all
    rw [e3]
    exact h3
theorem conv_bytes (w : World) (s : ByteArray) : ∃ a c w', (convert 9 28 (.string s)).run Tryz.prog w = .ok (.slice a s.data.toList.length c) w' ∧ SlR (Enc.int .u8) w' a (ints s.data.toList) ∧ Ch [] w w' := by
  have h := run_bytes_of_string (P := Tryz.prog) w 9 28 5 s (by kernel_rfl) (by kernel_rfl) (by kernel_rfl)
  have hsz : s.data.toList.length = s.size := (Lib.size_eq s).symm
  rw [hsz]
  refine ⟨_, _, _, h, ?_, (Ch.drew w).trans0 (Ch.alloc _ _)⟩
  intro i x hx
  have hi : i < s.data.size := by
    have := (List.getElem?_eq_some_iff.1 hx).1
    simpa [ints] using this
  rw [ints_at (by simpa using hi)] at hx
  cases hx
  refine ⟨_, _, rfl, fun j v hj => ?_⟩
  have hj0 : j = 0 ∧ v = .int .u8 (s.data.toList[i].toNat : Int) := by
    cases j with
    | zero => simp only [Enc.int, List.getElem?_cons_zero, Option.some.injEq] at hj; exact ⟨rfl, hj.symm⟩
    | succ j => simp [Enc.int] at hj
  obtain ⟨rfl, rfl⟩ := hj0
  have hb := bytesRow_at s (grownCap w s.size 0 5) i hi
  have hget : ∀ o, (w.drew.alloc o).heap[w.heap.size]? = some o := fun o => by
    show (w.heap.push o)[w.heap.size]? = _
    simp
  unfold World.cell?
  simp only [hget]
  have e0 : 0 + i * (Enc.int .u8).k + 0 = i := by show 0 + i * 1 + 0 = i; omega
  rw [e0]
  simpa using hb
def dgi (c : UInt8) : Int := match dig c with | some n => (n : Int) | none => -1
theorem dgi_lo {c : UInt8} (h1 : 48 ≤ c.toNat) (h2 : c.toNat ≤ 57) : dgi c = ((c.toNat - 48 : Nat) : Int) := by unfold dgi dig; rw [if_pos ⟨h1, h2⟩]
theorem dgi_hi {c : UInt8} (h1 : 97 ≤ c.toNat) (h2 : c.toNat ≤ 102) : dgi c = ((c.toNat - 87 : Nat) : Int) := by unfold dgi dig; rw [if_neg (by omega), if_pos ⟨h1, h2⟩]
theorem dgi_no {c : UInt8} (h1 : ¬ (48 ≤ c.toNat ∧ c.toNat ≤ 57)) (h2 : ¬ (97 ≤ c.toNat ∧ c.toNat ≤ 102)) : dgi c = -1 := by unfold dgi dig; rw [if_neg h1, if_neg h2]
theorem digit_sp (c : UInt8) (w : World) : Calls Tryz.prog 19 #[.int .u8 (c.toNat : Int)] w (Ret fun v w' => v = .int .i64 (dgi c) ∧ w' = w) := by
  apply purlinref27_digit.calls
  unfold purlinref27_digit.F
  have hu := u8_lt c
  have up : (c.toNat : Int) ≥ 97 → (c.toNat : Int) ≤ 102 → IntKind.wrap .i64 (IntKind.wrap .i64 (IntKind.wrap .u8 ((c.toNat : Int) - 97)) + 10) = dgi c := fun h1 h2 => by
    rw [dgi_hi (by omega) (by omega), wrap8_in (by omega) (by omega), wrap64_in (x := (c.toNat : Int) - 97) (by omega) (by omega), wrap64_in (by omega) (by omega)]
    omega
  refine br_dec (fun h1 => ?_) fun h1 => ?_
  · refine br_dec (fun h2 => ?_) fun h2 => ?_
    · refine ⟨?_, rfl⟩
      rw [dgi_lo (by omega) (by omega), wrap8_in (by omega) (by omega), wrap64_in (by omega) (by omega)]
      congr 1; omega
    · refine br_dec (fun h3 => br_dec (fun h4 => ⟨by rw [up h3 h4], rfl⟩) fun h4 => ⟨by rw [dgi_no (by omega) (by omega)], rfl⟩) fun h3 => ⟨by rw [dgi_no (by omega) (by omega)], rfl⟩
  · refine br_dec (fun h3 => br_dec (fun h4 => ⟨by rw [up h3 h4], rfl⟩) fun h4 => ⟨by rw [dgi_no (by omega) (by omega)], rfl⟩) fun h3 => ⟨by rw [dgi_no (by omega) (by omega)], rfl⟩
theorem s_at {s : ByteArray} {k : Nat} (h : k < s.size) : s.data.toList[k]? = some (s.data.getD k 0) := by
  have h2 : k < s.data.size := h
  show _ = some (if h : k < s.data.size then s.data[k] else 0)
  rw [dif_pos h2, Array.getElem?_toList, Array.getElem?_eq_getElem h2]
theorem rHex_sp {w : World} {s : ByteArray} (hl : s.size ≤ 100000) : Calls Tryz.prog 10 #[.string s] w (Ret fun v w' => v = .string ⟨(hexL s.data.toList).toArray⟩ ∧ Ch [] w w') := by
  obtain ⟨l, ht⟩ : ∃ l, l = s.data.toList := ⟨_, rfl⟩
  have hsz : s.size = l.length := by rw [ht]; exact Lib.size_eq s
  rw [← ht]
  apply purlinref27_Hex.calls
  unfold purlinref27_Hex.F
  have H := St.init w
  refine H.newOwn (E := Enc.int .u8) ([] : List Int) (by simp) fun b w1 H => ?_
  refine ⟨fun n A N C i w' => ∃ k : Nat, i = k ∧ k ≤ l.length ∧ n = l.length - k ∧ N = (ints (hexL (l.take k))).length ∧ St w (hpOf w) w' [own (Enc.int .u8) 5 A C (ints (hexL (l.take k)))], ⟨_, 0, rfl, Nat.zero_le _, rfl, rfl, H⟩, ?_⟩
  rintro n dead w2 A N C i ⟨k, rfl, hk, rfl, rfl, H⟩
  unfold purlinref27_Hex.L0
  have hln : (ints (hexL (l.take k))).length ≤ 200000 := by unfold ints; rw [List.length_map, hexL_len, List.length_take]; omega
  refine br_dec (fun hlt => ?_) fun hge => ?_
  · have hlt : k < l.length := by omega
    refine St.drw H fun w3 H => ?_
    have hx := s_at (s := s) (k := k) (by omega)
    rw [← ht] at hx
    rw [toNat_nat]
    generalize s.data.getD k 0 = x at hx ⊢
    have hu := u8_lt x
    have hq : IntKind.wrap .u8 ((x.toNat : Int).tdiv 16) = ((x.toNat / 16 : Nat) : Int) := by
      have : (x.toNat : Int).tdiv 16 = ((x.toNat / 16 : Nat) : Int) := rfl
      rw [this, wrap8_in (by omega) (by omega)]
    have hr : (x.toNat : Int).tmod 16 = ((x.toNat % 16 : Nat) : Int) := rfl
    rw [hq, hr]
    have hsz16 : ((⟨#[48, 49, 50, 51, 52, 53, 54, 55, 56, 57, 97, 98, 99, 100, 101, 102]⟩ : ByteArray).size : Int) = 16 := rfl
    rw [hsz16, toNat_nat, toNat_nat]
    have d1 : (⟨#[48, 49, 50, 51, 52, 53, 54, 55, 56, 57, 97, 98, 99, 100, 101, 102]⟩ : ByteArray).data.getD (x.toNat / 16) 0 = hexd (x.toNat / 16) := dgs_at _ (by omega)
    have d2 : (⟨#[48, 49, 50, 51, 52, 53, 54, 55, 56, 57, 97, 98, 99, 100, 101, 102]⟩ : ByteArray).data.getD (x.toNat % 16) 0 = hexd (x.toNat % 16) := dgs_at _ (by omega)
    rw [d1, d2]
    refine ⟨by omega, by omega, by decide, by omega, by omega, by omega, by omega, by decide, by omega, by omega, ?_⟩
    refine St.newOwn (E := Enc.int .u8) (t := 5) H [((hexd (x.toNat / 16)).toNat : Int), ((hexd (x.toNat % 16)).toNat : Int)] (by simp) fun b1 w4 H => ?_
    refine St.app (xs := ints (hexL (l.take k))) (ys := [((hexd (x.toNat / 16)).toNat : Int), ((hexd (x.toNat % 16)).toNat : Int)]) H elU8 (H.osl (E := Enc.int .u8) (xs := [((hexd (x.toNat / 16)).toNat : Int), ((hexd (x.toNat % 16)).toNat : Int)])) (fun a1 c1 w5 H => ?_) (hn := by simp; omega)
    have hk1 : IntKind.wrap .i64 ((k : Int) + 1) = ((k + 1 : Nat) : Int) := by rw [← Int.natCast_succ, wrap64_nat (by omega)]
    have he : ints (hexL (l.take (k + 1))) = ints (hexL (l.take k)) ++ [((hexd (x.toNat / 16)).toNat : Int), ((hexd (x.toNat % 16)).toNat : Int)] := by
      rw [hexL_take l k x hx]; simp [ints]
    refine ⟨l.length - (k + 1), by omega, k + 1, hk1, by omega, rfl, by rw [he], ?_⟩
    rw [he]
    exact St.re H
  · have hk2 : k = l.length := by omega
    subst hk2
    rw [List.take_length] at H ⊢
    refine ⟨_, _, conv_str (H.osl (E := Enc.int .u8)) (by simp [ints]), rfl, H.fin (hle_refl _)⟩
theorem unhex_app : ∀ {p l : List UInt8}, unhexL p = some l → ∀ q, unhexL (p ++ q) = (unhexL q).map (l ++ ·)
  | [], l, h, q => by simp only [unhexL, Option.some.injEq] at h; subst h; simp
  | [_], l, h, q => by cases h
  | x :: y :: r, l, h, q => by
    unfold unhexL at h
    split at h
    · rename_i a b l' h1 h2 h3
      cases h
      show unhexL (x :: y :: (r ++ q)) = _
      conv => lhs; unfold unhexL
      rw [h1, h2, unhex_app h3 q]
      cases unhexL q <;> rfl
    · cases h
theorem unhex_step {t l : List UInt8} {k : Nat} {x y : UInt8} (h : unhexL (t.take (2 * k)) = some l) (hx : t[2 * k]? = some x) (hy : t[2 * k + 1]? = some y) :
    unhexL (t.take (2 * (k + 1))) = (match dig x, dig y with | some a, some b => some (l ++ [UInt8.ofNat (16 * a + b)]) | _, _ => none) := by
  rw [show 2 * (k + 1) = 2 * k + 1 + 1 by omega, List.take_add_one, List.take_add_one, hx, hy, List.append_assoc, unhex_app h]
  show Option.map _ (unhexL [x, y]) = _
  unfold unhexL
  cases dig x <;> cases dig y <;> rfl
theorem rUnhex_sp {w : World} {s : ByteArray} (hl : s.size ≤ 100000) : Calls Tryz.prog 9 #[.string s] w (Ret fun v w' => (match unhexB s.data.toList with
    | none => v = .tuple #[.string ⟨#[]⟩, .bool false]
    | some l => v = .tuple #[.string ⟨l.toArray⟩, .bool true]) ∧ Ch [] w w') := by
  obtain ⟨t, ht⟩ : ∃ t, t = s.data.toList := ⟨_, rfl⟩
  have hsz : s.size = t.length := by rw [ht]; exact Lib.size_eq s
  rw [← ht]
  apply purlinref27_Unhex.calls
  unfold purlinref27_Unhex.F
  have H := St.init w
  refine H.newOwn (E := Enc.int .u8) ([] : List Int) (by simp) fun b w1 H => ?_
  refine ⟨fun n A N C i w' => ∃ (k : Nat) (l : List UInt8), i = (2 * k : Nat) ∧ 2 * k ≤ t.length ∧ n = t.length - k ∧ N = (ints l).length ∧ l.length ≤ t.length ∧ unhexL (t.take (2 * k)) = some l ∧ St w (hpOf w) w' [own (Enc.int .u8) 5 A C (ints l)], ⟨_, 0, [], rfl, Nat.zero_le _, rfl, rfl, Nat.zero_le _, rfl, H⟩, ?_⟩
  rintro n dead w2 A N C i ⟨k, l, rfl, hk, rfl, rfl, hll, hun, H⟩
  unfold purlinref27_Unhex.L0
  have hk1 : IntKind.wrap .i64 (((2 * k : Nat) : Int) + 1) = ((2 * k + 1 : Nat) : Int) := by rw [← Int.natCast_succ, wrap64_nat (by omega)]
  rw [hk1]
  refine br_dec (fun hlt => ?_) fun hge => ?_
  · have hlt : 2 * k + 1 < t.length := by omega
    refine St.drw H fun w3 H => ?_
    refine ⟨by omega, by omega, by omega, by omega, ?_⟩
    have hx := s_at (s := s) (k := 2 * k) (by omega)
    have hy := s_at (s := s) (k := 2 * k + 1) (by omega)
    rw [← ht] at hx hy
    rw [toNat_nat, toNat_nat]
    generalize s.data.getD (2 * k) 0 = x at hx ⊢
    generalize s.data.getD (2 * k + 1) 0 = y at hy ⊢
    refine Calls.ret (digit_sp x w3) ?_
    rintro _ w4 ⟨rfl, rfl⟩
    refine ⟨_, rfl, ?_⟩
    refine Calls.ret (digit_sp y _) ?_
    rintro _ w5 ⟨rfl, rfl⟩
    refine ⟨_, rfl, ?_⟩
    have htn : t ≠ [] := fun e => by rw [e] at hlt; simp at hlt
    have hB : unhexB t = unhexL t := by unfold unhexB; rw [if_neg htn]
    rw [hB]
    have hst := unhex_step hun hx hy
    unfold dgi
    cases hdx : dig x with
    | none =>
      refine br_t (by decide) ?_
      rw [unhex_bad hx hdx]
      exact ⟨rfl, H.fin (hle_refl _)⟩
    | some a =>
      refine br_f (by simp) ?_
      cases hdy : dig y with
      | none =>
        refine br_t (by decide) ?_
        rw [unhex_bad hy hdy]
        exact ⟨rfl, H.fin (hle_refl _)⟩
      | some b =>
        refine br_f (by simp) ?_
        rw [hdx, hdy] at hst
        have ha := dig_lt hdx
        have hb := dig_lt hdy
        simp only at hst ⊢
        have e1 : IntKind.wrap .u8 (IntKind.wrap .i64 (IntKind.wrap .i64 (16 * (a : Int)) + (b : Int))) = ((UInt8.ofNat (16 * a + b)).toNat : Int) := by
          rw [wrap64_in (x := 16 * (a : Int)) (by omega) (by omega), wrap64_in (by omega) (by omega), wrap8_in (by omega) (by omega), UInt8.toNat_ofNat_of_lt' (show 16 * a + b < 256 by omega)]
          omega
        rw [e1]
        have hil : (ints l).length = l.length := by simp [ints]
        refine St.app1 (xs := ints l) H elU8 ((UInt8.ofNat (16 * a + b)).toNat : Int) (fun b1 a1 c1 w6 H => ?_) (hn := by omega)
        have hk2 : IntKind.wrap .i64 (((2 * k : Nat) : Int) + 2) = ((2 * (k + 1) : Nat) : Int) := by
          rw [wrap64_in (by omega) (by omega)]; omega
        have he : ints (l ++ [UInt8.ofNat (16 * a + b)]) = ints l ++ [((UInt8.ofNat (16 * a + b)).toNat : Int)] := by simp [ints]
        have hl2 := unhex_len hst
        rw [List.length_take, List.length_append] at hl2
        refine ⟨t.length - (k + 1), by omega, k + 1, l ++ [UInt8.ofNat (16 * a + b)], hk2, by omega, rfl, by rw [he], by rw [List.length_append]; omega, hst, ?_⟩
        rw [he]
        exact H
  · rw [ba_beq']
    refine br_dec (fun he => ?_) fun hne => ?_
    · subst he
      have : t = [] := ht
      subst this
      exact ⟨rfl, H.fin (hle_refl _)⟩
    refine ⟨by decide, ?_⟩
    have htn : t ≠ [] := fun h => by
      apply hne
      have h2 : s.data.toList = [] := by rw [← ht]; exact h
      cases s with
      | mk a => cases a with
        | mk l =>
          have : l = [] := h2
          subst this
          rfl
    have hB : unhexB t = unhexL t := by unfold unhexB; rw [if_neg htn]
    rw [hB]
    have e2 : (s.size : Int).tmod 2 = ((s.size % 2 : Nat) : Int) := tmod_nat s.size 2
    have hodd : ((s.size : Int).tmod 2 == 1) = decide (s.size % 2 = 1) := by
      rw [e2]
      by_cases h : s.size % 2 = 1
      · rw [h]; rfl
      · have h1 : s.size % 2 = 0 := by omega
        rw [h1]; rfl
    rw [hodd]
    refine br_dec (fun ho => ?_) fun hev => ?_
    · rw [unhex_odd (by omega)]
      exact ⟨rfl, H.fin (hle_refl _)⟩
    · have hfull : 2 * k = t.length := by omega
      rw [hfull, List.take_length] at hun
      rw [hun]
      exact ⟨_, _, conv_str (H.osl (E := Enc.int .u8)) (by simp [ints]), rfl, H.fin (hle_refl _)⟩
end Go.Proofs.YtllpiaedljoejaaGreatDoor

namespace Go.Proofs.YtllpiaedljoejaaGreatDoor
open Go.Vc Go.Lib
set_option linter.unusedSimpArgs false
set_option linter.unusedVariables false
set_option maxRecDepth 100000
theorem unhexB_hex (l : List UInt8) : unhexB (hexL l) = if l = [] then none else some l := by
  cases l with
  | nil => rfl
  | cons x r =>
    rw [if_neg (by simp)]
    unfold unhexB
    rw [if_neg (by simp [hexL]), unhex_hex]
theorem unhexB_back {t l : List UInt8} (h : unhexB t = some l) : hexL l = t ∧ t.length = 2 * l.length := by
  unfold unhexB at h
  split at h
  · cases h
  · exact ⟨hex_unhex h, unhex_len h⟩
theorem Unhex_sp {w : World} {s : ByteArray} (hl : s.size ≤ 100000) : Calls Tryz.prog 8 #[.string s] w (Ret fun v w' => (∃ a n c, v = .tuple #[.slice a n c, .bool (unhexB s.data.toList).isSome] ∧ n = ((unhexB s.data.toList).getD []).length ∧ SlR (Enc.int .u8) w' a (ints ((unhexB s.data.toList).getD []))) ∧ Ch [] w w') := by
  refine Calls.ret (Unhex_any hl) ?_
  rintro v w1 ⟨h, hc⟩
  refine ⟨v, rfl, ?_, hc⟩
  cases hu : unhexB s.data.toList with
  | none => rw [hu] at h; exact ⟨none, 0, 0, h, rfl, SlR.nil _ _ _⟩
  | some l => rw [hu] at h; obtain ⟨a, c, hv, hs⟩ := h; exact ⟨a, _, c, hv, rfl, hs⟩
theorem rUnhex_sp2 {w : World} {s : ByteArray} (hl : s.size ≤ 100000) : Calls Tryz.prog 9 #[.string s] w (Ret fun v w' => v = .tuple #[.string ⟨((unhexB s.data.toList).getD []).toArray⟩, .bool (unhexB s.data.toList).isSome] ∧ Ch [] w w') := by
  refine Calls.ret (rUnhex_sp hl) ?_
  rintro v w1 ⟨h, hc⟩
  refine ⟨v, rfl, ?_, hc⟩
  cases hu : unhexB s.data.toList with
  | none => rw [hu] at h; exact h
  | some l => rw [hu] at h; exact h
theorem ba_eta (s : ByteArray) : (⟨s.data.toList.toArray⟩ : ByteArray) = s := by cases s; simp
theorem ScriptHex_any {w : World} (hG : ∀ w', Ch [] w w' → GlobX w') (hL : ∀ w', Ch [] w w' → LibX w') (s text : ByteArray) : Calls Tryz.prog 4 #[.string s, .string text] w (Ret fun v w' => v = .bool true ∧ Ch [] w w') := by
  apply purlinlaw27_ScriptHex.calls
  unfold purlinlaw27_ScriptHex.F
  refine br_dec (fun h => ?_) fun h1 => ?_
  · refine Calls.ret (awake_sp hG hL) ?_
    rintro _ w1 ⟨rfl, h⟩
    exact ⟨_, rfl, rfl, h⟩
  refine br_dec (fun h => ?_) fun h2 => ?_
  · refine Calls.ret (awake_sp hG hL) ?_
    rintro _ w1 ⟨rfl, h⟩
    exact ⟨_, rfl, rfl, h⟩
  have hsz : s.data.toList.length = s.size := (Lib.size_eq s).symm
  have htz : text.data.toList.length = text.size := (Lib.size_eq text).symm
  obtain ⟨a, c, w4, hr4, hs4, hc4⟩ := conv_bytes w s
  refine ⟨a, _, c, w4, hr4, ?_⟩
  refine Calls.ret (Hex_any hs4 (by omega)) ?_
  rintro _ w5 ⟨rfl, hc5⟩
  refine ⟨_, rfl, ?_⟩
  have hxz : (⟨(hexL s.data.toList).toArray⟩ : ByteArray).size = 2 * s.size := by
    show (hexL s.data.toList).toArray.size = _
    rw [List.size_toArray, hexL_len, hsz]
  refine Calls.ret (Unhex_sp (s := ⟨(hexL s.data.toList).toArray⟩) (by omega)) ?_
  rintro _ w6 ⟨⟨a6, n6, c6, rfl, hn6, hs6⟩, hc6⟩
  refine ⟨a6, n6, c6, _, rfl, ?_⟩
  refine Calls.ret (Unhex_sp (s := text) (by omega)) ?_
  rintro _ w7 ⟨⟨a7, n7, c7, rfl, hn7, hs7⟩, hc7⟩
  refine ⟨a7, n7, c7, _, rfl, ?_⟩
  refine Calls.ret (rUnhex_sp2 (s := text) (by omega)) ?_
  rintro _ w8 ⟨rfl, hc8⟩
  refine ⟨_, _, rfl, ?_⟩
  have hcw8 : Ch [] w w8 := hc4.trans0 (hc5.trans0 (hc6.trans0 (hc7.trans0 hc8)))
  refine Calls.ret (awake_sp (fun w' h => hG w' (hcw8.trans0 h)) (fun w' h => hL w' (hcw8.trans0 h))) ?_
  rintro _ w9 ⟨rfl, hc9⟩
  refine ⟨_, rfl, br_t rfl ?_⟩
  refine Calls.ret (rHex_sp (s := s) (by omega)) ?_
  rintro _ w10 ⟨rfl, hc10⟩
  refine ⟨_, rfl, br_t (by simp) ?_⟩
  have e6 : unhexB (⟨(hexL s.data.toList).toArray⟩ : ByteArray).data.toList = if s.data.toList = [] then none else some s.data.toList := unhexB_hex _
  rw [e6] at hn6 hs6 ⊢
  have hg6 : (if s.data.toList = [] then none else some s.data.toList).getD [] = s.data.toList := by
    split
    · rename_i h; rw [h]; rfl
    · rfl
  rw [hg6] at hn6 hs6
  refine br_t ?_ ?_
  · rw [ba_beq']
    by_cases h : s.data.toList = []
    · have : s = ⟨#[]⟩ := by rw [← ba_eta s, h]
      rw [if_pos h, this]; rfl
    · have : s ≠ ⟨#[]⟩ := fun e => h (by rw [e])
      rw [if_neg h]; simp [this]
  have hs6' := (hc7.trans0 (hc8.trans0 (hc9.trans0 hc10))).slr hs6 (.inr (by simp))
  refine ⟨_, _, conv_str hs6' hn6, ?_⟩
  rw [ba_eta]
  refine br_t (by simp) (br_t (by simp) ?_)
  have hs7' := (hc8.trans0 (hc9.trans0 hc10)).slr hs7 (.inr (by simp))
  refine ⟨_, _, conv_str hs7' hn7, ?_⟩
  refine br_t (by simp) ?_
  have hall := hcw8.trans0 (hc9.trans0 hc10)
  cases hu : unhexB text.data.toList with
  | none => exact br_t rfl ⟨rfl, hall⟩
  | some l =>
    refine br_f rfl ?_
    rw [hu] at hn7 hs7'
    simp only [Option.getD_some] at hn7 hs7'
    obtain ⟨hb1, hb2⟩ := unhexB_back hu
    subst hn7
    refine Calls.ret (Hex_any hs7' (by omega)) ?_
    rintro _ w13 ⟨rfl, hc13⟩
    refine ⟨_, rfl, ?_, hall.trans0 hc13⟩
    rw [hb1, ba_eta]
    simp
end Go.Proofs.YtllpiaedljoejaaGreatDoor
