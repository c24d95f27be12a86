/- Numbers as the printed formulas have them. Conditions: none. -/
import GoSem.Core.View
import Derived.KernelRfl
namespace Go.Vc
theorem wrap_i64_eq (x : Int) : IntKind.wrap .i64 x = (if (decide (x % 18446744073709551616 ≥ 9223372036854775808)) = true then x % 18446744073709551616 - 18446744073709551616 else x % 18446744073709551616) := by kernel_rfl
theorem wrap_u8_eq (x : Int) : IntKind.wrap .u8 x = x % 256 := by kernel_rfl
theorem wrap_u16_eq (x : Int) : IntKind.wrap .u16 x = x % 65536 := by kernel_rfl
theorem wrap_u32_eq (x : Int) : IntKind.wrap .u32 x = x % 4294967296 := by kernel_rfl
theorem wrap64_in {x : Int} (h0 : -9223372036854775808 ≤ x) (h1 : x ≤ 9223372036854775807) : IntKind.wrap .i64 x = x := by
  rw [wrap_i64_eq]
  by_cases hx : 0 ≤ x
  · rw [Int.emod_eq_of_lt hx (by omega), if_neg (by simp; omega)]
  · have : x % 18446744073709551616 = x + 18446744073709551616 := by omega
    rw [this, if_pos (by simp; omega)]; omega
theorem wrap8_in {x : Int} (h0 : 0 ≤ x) (h1 : x < 256) : IntKind.wrap .u8 x = x := by rw [wrap_u8_eq, Int.emod_eq_of_lt h0 h1]
theorem wrap32_in {x : Int} (h0 : 0 ≤ x) (h1 : x < 4294967296) : IntKind.wrap .u32 x = x := by rw [wrap_u32_eq, Int.emod_eq_of_lt h0 h1]
theorem wrap16_in {x : Int} (h0 : 0 ≤ x) (h1 : x < 65536) : IntKind.wrap .u16 x = x := by rw [wrap_u16_eq, Int.emod_eq_of_lt h0 h1]
theorem wrap64_nat {n : Nat} (h : n ≤ 9223372036854775807) : IntKind.wrap .i64 (n : Int) = n := wrap64_in (by omega) (by omega)
theorem tmod_nat (a b : Nat) : Int.tmod (a : Int) (b : Int) = ((a % b : Nat) : Int) := rfl
theorem toNat_nat (a : Nat) : ((a : Int)).toNat = a := rfl
/-- Round a ring of s places. -/
theorem ring_mod {a i s : Nat} (ha : a < s) (hi : i ≤ s) : (a + i) % s = if a + i < s then a + i else a + i - s := by
  split
  · rename_i h; exact Nat.mod_eq_of_lt h
  · rename_i h
    rw [Nat.mod_eq_sub_mod (by omega)]
    exact Nat.mod_eq_of_lt (by omega)
end Go.Vc
