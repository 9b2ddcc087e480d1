/- The integers' zigzag, to and fro, and the document's. -/
import Derived.Test.YtgpnmmgoachajaaZz
namespace Go.Proofs.Ytgpnmmgoachajaa
open Go.RowKit
open Go.Proofs

theorem xor_ones (a : Nat) (h : a < 18446744073709551616) : bits .xor .u64 (a : Int) (18446744073709551615 : Int) = ((18446744073709551615 - a : Nat) : Int) := by
  rw [show (18446744073709551615 : Int) = ((18446744073709551615 : Nat) : Int) by rfl, u64_xor_nat a _ h (by decide)]
  have h2 : a ^^^ 18446744073709551615 = 18446744073709551615 - a := by
    have := congrArg BitVec.toNat (BitVec.xor_allOnes (x := BitVec.ofNat 64 a))
    rw [BitVec.toNat_xor, BitVec.toNat_not, BitVec.toNat_allOnes, BitVec.toNat_ofNat, Nat.mod_eq_of_lt (by omega)] at this
    simpa using this
  rw [h2]
theorem xor_zero (a : Nat) (h : a < 18446744073709551616) : bits .xor .u64 (a : Int) (0 : Int) = (a : Int) := by
  rw [show (0 : Int) = ((0 : Nat) : Int) by rfl, u64_xor_nat a 0 h (by decide), Nat.xor_zero]
theorem and_one (a : Nat) (h : a < 18446744073709551616) : bits .and .u64 (a : Int) (1 : Int) = ((a % 2 : Nat) : Int) := by
  rw [show (1 : Int) = ((1 : Nat) : Int) by rfl, u64_and_nat a 1 h (by decide), Nat.and_one_is_mod]
theorem xor_i64_zero (a : Nat) (ha : a < 9223372036854775808) : bits .xor .i64 (a : Int) 0 = (a : Int) := by
  show IntKind.i64.wrap ((BitVec.ofInt 64 (a : Int) ^^^ BitVec.ofInt 64 0).toNat : Int) = _
  have h1 : BitVec.ofInt 64 0 = 0#64 := by decide
  rw [h1, BitVec.xor_zero, ofInt_u64 a (by omega)]
  simp [IntKind.wrap, IntKind.bits, IntKind.signed]
  omega
theorem xor_i64_ones (a : Nat) (ha : a < 9223372036854775808) : bits .xor .i64 (a : Int) (-1) = -1 - (a : Int) := by
  show IntKind.i64.wrap ((BitVec.ofInt 64 (a : Int) ^^^ BitVec.ofInt 64 (-1)).toNat : Int) = _
  have h1 : BitVec.ofInt 64 (-1) = BitVec.allOnes 64 := by decide
  rw [h1, BitVec.xor_allOnes, BitVec.toNat_not, ofInt_u64 a (by omega)]
  simp [IntKind.wrap, IntKind.bits, IntKind.signed]
  omega

theorem zig_xor (n : Int) (h1 : -9223372036854775808 ≤ n) (h2 : n ≤ 9223372036854775807) : bits .xor .u64 (IntKind.u64.wrap (IntKind.u64.wrap n * 2)) (IntKind.u64.wrap (n / 9223372036854775808)) = ((zz n : Nat) : Int) := by
  simp only [IntKind.wrap_u64]
  by_cases h0 : 0 ≤ n
  · have e1 : n % 18446744073709551616 * 2 % 18446744073709551616 = ((2 * n.toNat : Nat) : Int) := by omega
    have e2 : n / 9223372036854775808 % 18446744073709551616 = 0 := by omega
    rw [e1, e2, xor_zero _ (by omega), zz, if_pos h0]
    omega
  · have e1 : n % 18446744073709551616 * 2 % 18446744073709551616 = (((18446744073709551616 + 2 * n).toNat : Nat) : Int) := by omega
    have e2 : n / 9223372036854775808 % 18446744073709551616 = 18446744073709551615 := by omega
    rw [e1, e2, xor_ones _ (by omega), zz, if_neg h0]
    omega
theorem zag_xor (u : Nat) (h : u < 18446744073709551616) : bits .xor .i64 ((u : Int) / 2) (wrap64 (-wrap64 (bits .and .u64 (u : Int) 1))) = zag u := by
  rw [and_one u h, show (u : Int) / 2 = ((u / 2 : Nat) : Int) by omega, zag]
  have h2 := Nat.mod_two_eq_zero_or_one u
  rcases h2 with h2 | h2
  · rw [h2, if_pos rfl, show wrap64 (-wrap64 ((0 : Nat) : Int)) = 0 by unfold wrap64; omega, xor_i64_zero _ (by omega)]
  · rw [h2, if_neg (by decide), show wrap64 (-wrap64 ((1 : Nat) : Int)) = -1 by unfold wrap64; omega, xor_i64_ones _ (by omega)]
    omega

end Go.Proofs.Ytgpnmmgoachajaa
