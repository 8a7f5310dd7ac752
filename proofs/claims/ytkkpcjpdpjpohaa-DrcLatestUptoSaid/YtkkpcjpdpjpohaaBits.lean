/- Bits of an int: masks, joins. No program here. -/
import Derived.WalkKit
import Derived.Laws.BitsAllLaws
namespace Go.Proofs.Ytkkpcjpdpjpohaa
open Go.RowKit

theorem ofInt64_toNat (x : Int) : (BitVec.ofInt 64 x).toNat = (x % 18446744073709551616).toNat := by
  rw [BitVec.toNat_ofInt]; rfl
theorem bits_and_i64 (x y : Int) : bits .and .i64 x y = IntKind.i64.wrap (((x % 18446744073709551616).toNat &&& (y % 18446744073709551616).toNat : Nat) : Int) := by
  show IntKind.i64.wrap (((BitVec.ofInt 64 x &&& BitVec.ofInt 64 y).toNat : Nat) : Int) = _
  rw [BitVec.toNat_and, ofInt64_toNat, ofInt64_toNat]
theorem bits_or_i64 (x y : Int) : bits .or .i64 x y = IntKind.i64.wrap (((x % 18446744073709551616).toNat ||| (y % 18446744073709551616).toNat : Nat) : Int) := by
  show IntKind.i64.wrap (((BitVec.ofInt 64 x ||| BitVec.ofInt 64 y).toNat : Nat) : Int) = _
  rw [BitVec.toNat_or, ofInt64_toNat, ofInt64_toNat]
theorem bits_xor_i64 (x y : Int) : bits .xor .i64 x y = IntKind.i64.wrap (((x % 18446744073709551616).toNat ^^^ (y % 18446744073709551616).toNat : Nat) : Int) := by
  show IntKind.i64.wrap (((BitVec.ofInt 64 x ^^^ BitVec.ofInt 64 y).toNat : Nat) : Int) = _
  rw [BitVec.toNat_xor, ofInt64_toNat, ofInt64_toNat]
theorem i64_and_nat (x : Int) (m : Nat) (hm : m < 9223372036854775808) : bits .and .i64 x (m : Int) = (((x % 18446744073709551616).toNat &&& m : Nat) : Int) := by
  rw [bits_and_i64]
  have e : ((m : Int) % 18446744073709551616).toNat = m := by omega
  rw [e]
  have hle : (x % 18446744073709551616).toNat &&& m ≤ m := Nat.and_le_right
  rw [IntKind.wrap_i64]; omega
theorem i64_and_mask (x : Int) (j : Nat) (hj : j ≤ 62) : bits .and .i64 x ((2 ^ j - 1 : Nat) : Int) = x % 2 ^ j := by
  have h1 : 2 ^ j ≤ 2 ^ 62 := Nat.pow_le_pow_right (by decide) hj
  rw [i64_and_nat x _ (by omega), Nat.and_two_pow_sub_one_eq_mod]
  have hd : ((2 ^ j : Nat) : Int) ∣ 18446744073709551616 := by
    refine ⟨((2 ^ (64 - j) : Nat) : Int), ?_⟩
    rw [← Int.natCast_mul, ← Nat.pow_add, show j + (64 - j) = 64 by omega]; rfl
  rw [Int.natCast_emod, Int.toNat_of_nonneg (Int.emod_nonneg _ (by decide)), Int.emod_emod_of_dvd _ hd]
  simp
theorem i64_or_nat (a b : Nat) (h : a ||| b < 9223372036854775808) (ha : a < 18446744073709551616) (hb : b < 18446744073709551616) : bits .or .i64 (a : Int) (b : Int) = ((a ||| b : Nat) : Int) := by
  rw [bits_or_i64]
  rw [show ((a : Int) % 18446744073709551616).toNat = a by omega, show ((b : Int) % 18446744073709551616).toNat = b by omega, IntKind.wrap_i64]; omega
/-- a number whose lowest bits are noughts, joined with what fits there -/
theorem i64_or_join (x : Int) (j b : Nat) (hj : j ≤ 62) (hb : b < 2 ^ j) (hx : x % 2 ^ j = 0) (h1 : -9223372036854775808 ≤ x) (h2 : x ≤ 9223372036854775807) : bits .or .i64 x (b : Int) = x + b := by
  have hp : 2 ^ j ≤ 2 ^ 62 := Nat.pow_le_pow_right (by decide) hj
  have hd : ((2 ^ j : Nat) : Int) ∣ 18446744073709551616 := by
    refine ⟨((2 ^ (64 - j) : Nat) : Int), ?_⟩
    rw [← Int.natCast_mul, ← Nat.pow_add, show j + (64 - j) = 64 by omega]; rfl
  rw [bits_or_i64]
  rw [show ((b : Int) % 18446744073709551616).toNat = b by omega]
  have hm : (x % 18446744073709551616).toNat % 2 ^ j = 0 := by
    have : (((x % 18446744073709551616).toNat % 2 ^ j : Nat) : Int) = 0 := by
      rw [Int.natCast_emod, Int.toNat_of_nonneg (Int.emod_nonneg _ (by decide)), Int.emod_emod_of_dvd _ hd]
      simpa using hx
    omega
  rw [nat_join j _ _ hm hb, IntKind.wrap_i64]
  -- x + b stays in its range, since x is a multiple of 2^j
  have hxb : x + b ≤ 9223372036854775807 := by
    have hd2 : ((2 ^ j : Nat) : Int) ∣ x := Int.dvd_of_emod_eq_zero (by simpa using hx)
    obtain ⟨q, hq⟩ := hd2
    obtain ⟨r, hr⟩ : ((2 ^ j : Nat) : Int) ∣ 9223372036854775808 := by
      refine ⟨((2 ^ (63 - j) : Nat) : Int), ?_⟩
      rw [← Int.natCast_mul, ← Nat.pow_add, show j + (63 - j) = 63 by omega]; rfl
    have hlt : q < r := by
      have hpos : (0 : Int) < ((2 ^ j : Nat) : Int) := by have := Nat.two_pow_pos j; omega
      have : ((2 ^ j : Nat) : Int) * q < ((2 ^ j : Nat) : Int) * r := by rw [← hq, ← hr]; omega
      exact Int.lt_of_mul_lt_mul_left this (Int.le_of_lt hpos)
    have : ((2 ^ j : Nat) : Int) * (q + 1) ≤ ((2 ^ j : Nat) : Int) * r := Int.mul_le_mul_of_nonneg_left (by omega) (by omega)
    rw [Int.mul_add, ← hq, ← hr] at this
    omega
  omega
end Go.Proofs.Ytkkpcjpdpjpohaa
