/- Layer 4's reading: Zig. -/
import Derived.Test.YtghkkhafnkkomaaRz
namespace Go.Proofs.Ytghkkhafnkkomaa
open Go.RowKit
open Go.Proofs

theorem firstLow_lt : ∀ (l : List UInt8) (k : Nat), firstLow l = some k → k < l.length := by
  intro l k h
  unfold firstLow at h
  rw [List.findIdx?_eq_some_iff_getElem] at h
  exact h.1
/-- One group more. -/
theorem group_or (T : List UInt8) (j : Nat) (hj : j < T.length) (h9 : j < 10) :
    bits .or .u64 ((zv (T.take j) % 18446744073709551616 : Nat) : Int) (IntKind.u64.wrap (IntKind.u64.wrap (bits .and .u8 ((T[j].toNat : Nat) : Int) 127) * 2 ^ (7 * j))) = ((zv (T.take (j + 1)) % 18446744073709551616 : Nat) : Int) := by
  have hc := T[j].toNat_lt
  have h127 : ∀ x, x < 256 → x &&& 127 = x % 128 := by
    intro x _
    exact Nat.and_two_pow_sub_one_eq_mod x 7
  have e1 : bits .and .u8 ((T[j].toNat : Nat) : Int) 127 = ((T[j].toNat % 128 : Nat) : Int) := by
    rw [show (127 : Int) = ((127 : Nat) : Int) by rfl, u8_and_nat _ _ (by omega) (by decide), h127 _ (by omega)]
  have hz : ∀ (l : List UInt8), zv l < 128 ^ l.length := by
    intro l
    induction l with
    | nil => simp [zv]
    | cons c l ih => rw [zv, List.length_cons, Nat.pow_succ]; omega
  have hlt : zv (T.take j) < 2 ^ (7 * j) := by
    have := hz (T.take j)
    rw [List.length_take, Nat.min_eq_left (by omega)] at this
    rwa [Nat.pow_mul]
  have hp : (2 : Nat) ^ (7 * j) ≤ 2 ^ 63 := Nat.pow_le_pow_right (by omega) (by omega)
  have hp2 : (2 : Nat) ^ 63 = 9223372036854775808 := by decide
  have ez : zv (T.take (j + 1)) = zv (T.take j) + T[j].toNat % 128 * 2 ^ (7 * j) := by
    rw [List.take_succ_eq_append_getElem hj, zv_snoc, List.length_take, Nat.min_eq_left (by omega), Nat.pow_mul]
  have hd128 : T[j].toNat % 128 < 128 := Nat.mod_lt _ (by decide)
  generalize T[j].toNat % 128 = d at e1 ez hd128
  have e0 : IntKind.u64.wrap (d : Int) = (d : Int) := by rw [IntKind.wrap_u64]; omega
  rw [e1, e0, ez, Nat.mod_eq_of_lt (by omega), IntKind.wrap_u64]
  have e2 : (2 : Int) ^ (7 * j) = ((2 ^ (7 * j) : Nat) : Int) := by simp
  rw [e2, ← Int.natCast_mul]
  -- the group's bits lie above those that stand
  obtain ⟨r, hr⟩ : ∃ r, d * 2 ^ (7 * j) % 18446744073709551616 = r * 2 ^ (7 * j) := by
    have hd : 2 ^ (7 * j) ∣ 18446744073709551616 := by
      rw [show (18446744073709551616 : Nat) = 2 ^ 64 by decide]
      exact Nat.pow_dvd_pow 2 (by omega)
    have : 2 ^ (7 * j) ∣ d * 2 ^ (7 * j) % 18446744073709551616 := (Nat.dvd_mod_iff hd).2 (Nat.dvd_mul_left _ _)
    obtain ⟨r, hr⟩ := this
    exact ⟨r, by rw [hr, Nat.mul_comm]⟩
  have e3 : ((d * 2 ^ (7 * j) : Nat) : Int) % 18446744073709551616 = ((d * 2 ^ (7 * j) % 18446744073709551616 : Nat) : Int) := by omega
  have hlt2 : r * 2 ^ (7 * j) < 18446744073709551616 := by rw [← hr]; omega
  rw [e3, hr, u64_or_nat _ _ (by omega) hlt2]
  have h3 := Nat.two_pow_add_eq_or_of_lt (i := 7 * j) (b := zv (T.take j)) hlt r
  rw [Nat.or_comm, Nat.mul_comm r, ← h3, Nat.mul_comm _ r]
  have h4 : r * 2 ^ (7 * j) + zv (T.take j) < 18446744073709551616 := by
    have h5 : r < 2 ^ (64 - 7 * j) := by
      have e : (18446744073709551616 : Nat) = 2 ^ (64 - 7 * j) * 2 ^ (7 * j) := by
        rw [← Nat.pow_add, show 64 - 7 * j + 7 * j = 64 by omega]
      rw [e] at hlt2
      exact Nat.lt_of_mul_lt_mul_right hlt2
    have h6 : (r + 1) * 2 ^ (7 * j) ≤ 2 ^ (64 - 7 * j) * 2 ^ (7 * j) := Nat.mul_le_mul_right _ h5
    have e : (18446744073709551616 : Nat) = 2 ^ (64 - 7 * j) * 2 ^ (7 * j) := by
      rw [← Nat.pow_add, show 64 - 7 * j + 7 * j = 64 by omega]
    rw [Nat.add_mul, Nat.one_mul] at h6
    omega
  congr 1
  have h7 : (zv (T.take j) + d * 2 ^ (7 * j)) % 18446744073709551616 = (zv (T.take j) + r * 2 ^ (7 * j)) % 18446744073709551616 := by
    rw [← hr]; omega
  rw [h7, Nat.mod_eq_of_lt (by omega)]
  omega
end Go.Proofs.Ytghkkhafnkkomaa
