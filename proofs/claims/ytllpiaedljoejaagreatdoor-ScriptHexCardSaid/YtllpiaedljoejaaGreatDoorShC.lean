/- Bytes as a text of digits: the program's Hex. Conditions: none. -/
import Derived.Test.YtllpiaedljoejaaGreatDoorShB
namespace Go.Proofs.YtllpiaedljoejaaGreatDoor
open Go.Vc Go.Lib
set_option linter.unusedSimpArgs false
set_option linter.unusedVariables false
set_option maxRecDepth 100000
def dgs : ByteArray := ⟨#[48, 49, 50, 51, 52, 53, 54, 55, 56, 57, 97, 98, 99, 100, 101, 102]⟩
theorem dgs_at : ∀ n, n < 16 → dgs.data.getD n 0 = hexd n := by decide
theorem fdiv16 (n : Nat) : ((n : Int)).fdiv (2 ^ (min (4 : Int).toNat 8)) = ((n / 16 : Nat) : Int) := by
  have e : (2 : Int) ^ (min (4 : Int).toNat 8) = 16 := by decide
  rw [e, Int.fdiv_eq_ediv_of_nonneg _ (by decide)]
  simp
theorem and15_all : (List.range 256).all (fun n => decide (IntKind.wrap .u8 (((BitVec.ofInt 8 (n : Int) &&& BitVec.ofInt 8 15).toNat : Nat)) = ((n % 16 : Nat) : Int))) = true := by decide +kernel
theorem and15 {n : Nat} (h : n < 256) : IntKind.wrap .u8 (((BitVec.ofInt 8 (n : Int) &&& BitVec.ofInt 8 15).toNat : Nat)) = ((n % 16 : Nat) : Int) := of_decide_eq_true (List.all_eq_true.1 and15_all n (List.mem_range.2 h))
theorem hexL_take (l : List UInt8) (k : Nat) (x : UInt8) (h : l[k]? = some x) : hexL (l.take (k + 1)) = hexL (l.take k) ++ [hexd (x.toNat / 16), hexd (x.toNat % 16)] := by
  have hlt := (List.getElem?_eq_some_iff.1 h).1
  rw [List.take_add_one, h]
  simp [hexL, List.flatMap_append]
theorem hexL_len (l : List UInt8) : (hexL l).length = 2 * l.length := by
  induction l with
  | nil => rfl
  | cons x r ih => show (hexd _ :: hexd _ :: hexL r).length = _; simp only [List.length_cons, ih]; omega
theorem Hex_any {w : World} {a : Option Addr} {c : Nat} {l : List UInt8} (hs : SlR (Enc.int .u8) w a (ints l)) (hl : l.length ≤ 100000) : Calls Tryz.prog 7 #[.slice a l.length c] w (Ret fun v w' => v = .string ⟨(hexL l).toArray⟩ ∧ Ch [] w w') := by
  apply script_Hex.calls
  unfold script_Hex.F
  have H := St.init w
  refine St.new H fun b w1 H => ?_
  refine ⟨fun n t8 w' => ∃ k : Nat, t8 = k ∧ k ≤ l.length ∧ n = l.length - k ∧ St w (hpOf w) w' [bld b (ints (hexL (l.take k)))], ⟨_, 0, rfl, Nat.zero_le _, rfl, ?_⟩, ?_⟩
  · have H2 := H.ownNil (Enc.int .u8) 5
    have H3 := St.re (L' := row b 41 [.pointer none, .slice none 0 0] :: own (Enc.int .u8) 5 none 0 [] :: []) H2
    exact (St.join (L1 := [row b 41 [.pointer none, .slice none 0 0], own (Enc.int .u8) 5 none 0 []]) H3).imp fun h hh => ⟨_, none, 0, .inl rfl, hh⟩
  rintro n dead w2 i ⟨k, rfl, hk, rfl, H⟩
  unfold script_Hex.L0
  refine br_dec (fun hlt => ?_) fun hge => ?_
  · have hlt : k < l.length := by omega
    obtain ⟨x, hx⟩ : ∃ x, l[k]? = some x := ⟨l[k], List.getElem?_eq_getElem hlt⟩
    have hxi : (ints l)[k]? = some (x.toNat : Int) := by simp [ints, hx]
    have hsl := H.sli hs.sli
    have hu := u8_lt x
    refine ⟨by omega, by omega, ?_⟩
    obtain ⟨ab, ao, rfl, hcell⟩ := hsl k _ hxi
    simp only [okP_some, pb_some, po_some, toNat_nat]
    refine ⟨_, hcell 0 _ rfl, by decide, ?_⟩
    rw [fdiv16, and15 hu]
    have hsz : ((⟨#[48, 49, 50, 51, 52, 53, 54, 55, 56, 57, 97, 98, 99, 100, 101, 102]⟩ : ByteArray).size : Int) = 16 := rfl
    rw [hsz]
    refine ⟨by omega, by omega, ?_⟩
    rw [toNat_nat, toNat_nat]
    have d1 : (⟨#[48, 49, 50, 51, 52, 53, 54, 55, 56, 57, 97, 98, 99, 100, 101, 102]⟩ : ByteArray).data.getD (x.toNat / 16) 0 = hexd (x.toNat / 16) := dgs_at _ (by omega)
    have d2 : (⟨#[48, 49, 50, 51, 52, 53, 54, 55, 56, 57, 97, 98, 99, 100, 101, 102]⟩ : ByteArray).data.getD (x.toNat % 16) 0 = hexd (x.toNat % 16) := dgs_at _ (by omega)
    rw [d1, d2]
    have hln : (hexL (l.take k)).length ≤ 200000 := by rw [hexL_len, List.length_take]; omega
    refine Calls.ret (WriteByte_sp H _ (by simp [ints]; omega)) ?_
    rintro v w3 ⟨rfl, H⟩
    refine ⟨_, rfl, by omega, by omega, ?_⟩
    refine Calls.ret (WriteByte_sp H _ (by simp [ints]; omega)) ?_
    rintro v w4 ⟨rfl, H⟩
    refine ⟨_, rfl, ?_⟩
    have hk1 : IntKind.wrap .i64 ((k : Int) + 1) = ((k + 1 : Nat) : Int) := by rw [← Int.natCast_succ, wrap64_nat (by omega)]
    refine ⟨l.length - (k + 1), by omega, k + 1, hk1, by omega, rfl, ?_⟩
    rw [hexL_take l k x hx]
    simpa [ints, List.append_assoc] using H
  · have hk2 : k = l.length := by omega
    subst hk2
    rw [List.take_length] at H
    refine Calls.ret (String_sp H) ?_
    rintro v w5 ⟨rfl, hc⟩
    exact ⟨_, rfl, rfl, hc⟩
end Go.Proofs.YtllpiaedljoejaaGreatDoor
