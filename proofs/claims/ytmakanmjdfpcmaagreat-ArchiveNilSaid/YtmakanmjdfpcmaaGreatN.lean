/- Numbers as the walk spells them. -/
import Derived.WalkKit
import Derived.Test.YtmakanmjdfpcmaaGreatPb
namespace Go.Proofs.YtmakanmjdfpcmaaGreat
open Go.RowKit

theorem ofInt_64 (a : Nat) (ha : a < 9223372036854775808) : (BitVec.ofInt 64 (a : Int)).toNat = a := by
  rw [BitVec.ofInt_natCast, BitVec.toNat_ofNat]; exact Nat.mod_eq_of_lt (by omega)
theorem wrap64_nat (a : Nat) (ha : a < 9223372036854775808) : wrap64 (a : Int) = a := by unfold wrap64; omega
theorem wrap64_id (a : Int) (h0 : -9223372036854775808 ≤ a) (ha : a < 9223372036854775808) : wrap64 a = a := by unfold wrap64; omega
theorem i64_wrap (a : Int) : IntKind.i64.wrap a = wrap64 a := by
  simp [IntKind.wrap, IntKind.bits, IntKind.signed, wrap64]
  omega
theorem i64_or (a b : Nat) (ha : a < 9223372036854775808) (hb : b < 9223372036854775808) : bits .or .i64 (a : Int) (b : Int) = ((a ||| b : Nat) : Int) := by
  have hx : a ||| b < 2 ^ 63 := Nat.or_lt_two_pow (by omega) (by omega)
  show IntKind.i64.wrap ((BitVec.ofInt 64 (a : Int) ||| BitVec.ofInt 64 (b : Int)).toNat : Int) = _
  rw [BitVec.toNat_or, ofInt_64 a ha, ofInt_64 b hb, i64_wrap]
  exact wrap64_nat _ (by omega)
theorem i64_and (a b : Nat) (ha : a < 9223372036854775808) (hb : b < 9223372036854775808) : bits .and .i64 (a : Int) (b : Int) = ((a &&& b : Nat) : Int) := by
  have hx : a &&& b < 2 ^ 63 := Nat.and_lt_two_pow _ (by omega)
  show IntKind.i64.wrap ((BitVec.ofInt 64 (a : Int) &&& BitVec.ofInt 64 (b : Int)).toNat : Int) = _
  rw [BitVec.toNat_and, ofInt_64 a ha, ofInt_64 b hb, i64_wrap]
  exact wrap64_nat _ (by omega)
theorem i64_xor (a b : Nat) (ha : a < 9223372036854775808) (hb : b < 9223372036854775808) : bits .xor .i64 (a : Int) (b : Int) = ((a ^^^ b : Nat) : Int) := by
  have hx : a ^^^ b < 2 ^ 63 := Nat.xor_lt_two_pow (by omega) (by omega)
  show IntKind.i64.wrap ((BitVec.ofInt 64 (a : Int) ^^^ BitVec.ofInt 64 (b : Int)).toNat : Int) = _
  rw [BitVec.toNat_xor, ofInt_64 a ha, ofInt_64 b hb, i64_wrap]
  exact wrap64_nat _ (by omega)
/-- 'h | c << n', c above h's bits -/
theorem i64_or_shl (h c n : Nat) (hh : h < 2 ^ n) (hc : c < 2 ^ 31) (hn : n < 32) :
    bits .or .i64 (h : Int) (wrap64 ((c : Int) * 2 ^ n)) = ((h + c * 2 ^ n : Nat) : Int) := by
  have h1 : (2 : Nat) ^ n ≤ 2 ^ 31 := Nat.pow_le_pow_right (by omega) (by omega)
  have h2 : c * 2 ^ n < 2 ^ 62 := by
    have : c * 2 ^ n < 2 ^ 31 * 2 ^ 31 := Nat.mul_lt_mul_of_lt_of_le hc h1 (by omega)
    omega
  have e : ((c : Int) * 2 ^ n) = ((c * 2 ^ n : Nat) : Int) := by push_cast; rfl
  rw [e, wrap64_nat _ (by omega), i64_or _ _ (by omega) (by omega), or_shift _ _ _ hh]
/-- 'v & (1 << n - 1)' -/
theorem i64_mask (v n : Nat) (hv : v < 9223372036854775808) (hn : n < 62) :
    bits .and .i64 (v : Int) (wrap64 (wrap64 (2 ^ n) - 1)) = ((v % 2 ^ n : Nat) : Int) := by
  have h1 : (2 : Nat) ^ n ≤ 2 ^ 61 := Nat.pow_le_pow_right (by omega) (by omega)
  have h0 : 0 < (2 : Nat) ^ n := Nat.two_pow_pos n
  have e : ((2 : Int) ^ n) = ((2 ^ n : Nat) : Int) := by push_cast; rfl
  have e2 : ((2 ^ n : Nat) : Int) - 1 = ((2 ^ n - 1 : Nat) : Int) := by omega
  rw [e, wrap64_nat _ (by omega), e2, wrap64_nat _ (by omega), i64_and _ _ hv (by omega), Nat.and_two_pow_sub_one_eq_mod]
theorem wrap64_byte (c : UInt8) : wrap64 (c.toNat : Int) = c.toNat := wrap64_nat _ (by have := c.toNat_lt; omega)
theorem cast_div_pow (a n : Nat) : ((a : Int) / 2 ^ n) = ((a / 2 ^ n : Nat) : Int) := by push_cast; rfl
end Go.Proofs.YtmakanmjdfpcmaaGreat
