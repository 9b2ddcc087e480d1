/- Zigzags in plain Lean: a number without its sign, its groups of seven bits, and what is read of them. No program is named here. -/
import Derived.Test.YtgpnmmgoachajaaInts
import Derived.Laws.BitsAllLaws
namespace Go.Proofs.Ytgpnmmgoachajaa
open Go.RowKit
open Go.Proofs

/-- A number's zigzag. -/
def zz (n : Int) : Nat := if 0 ≤ n then (2 * n).toNat else (-2 * n - 1).toNat
/-- The number of a zigzag. -/
def zag (u : Nat) : Int := if u % 2 = 0 then ((u / 2 : Nat) : Int) else -((u / 2 : Nat) : Int) - 1
theorem zag_zz (n : Int) : zag (zz n) = n := by
  unfold zag zz
  split <;> split <;> omega
theorem zz_zag (u : Nat) : zz (zag u) = u := by
  unfold zag zz
  split <;> split <;> omega
theorem zz_lt (n : Int) (h1 : -9223372036854775808 ≤ n) (h2 : n ≤ 9223372036854775807) : zz n < 18446744073709551616 := by
  unfold zz
  split <;> omega
theorem zag_range (u : Nat) (h : u < 18446744073709551616) : -9223372036854775808 ≤ zag u ∧ zag u ≤ 9223372036854775807 := by
  unfold zag
  split <;> omega
/-- A zigzag's groups. -/
def zb (u : Nat) : List UInt8 := if u < 128 then [UInt8.ofNat u] else UInt8.ofNat (u % 128 + 128) :: zb (u / 128)
termination_by u
decreasing_by omega
theorem zb_lo {u : Nat} (h : u < 128) : zb u = [UInt8.ofNat u] := by rw [zb, if_pos h]
theorem zb_hi {u : Nat} (h : ¬ u < 128) : zb u = UInt8.ofNat (u % 128 + 128) :: zb (u / 128) := by rw [zb, if_neg h]
theorem zb_pos (u : Nat) : 1 ≤ (zb u).length := by
  rw [zb]
  split <;> simp
theorem zb_len : ∀ (k u : Nat), u < 128 ^ (k + 1) → (zb u).length ≤ k + 1
  | 0, u, h => by rw [zb_lo (by simpa using h)]; simp
  | k + 1, u, h => by
    by_cases h2 : u < 128
    · rw [zb_lo h2]; simp
    · rw [zb_hi h2, List.length_cons]
      have : u / 128 < 128 ^ (k + 1) := by
        rw [Nat.div_lt_iff_lt_mul (by decide)]
        rwa [Nat.pow_succ] at h
      have := zb_len k (u / 128) this
      omega
theorem zb_len64 (u : Nat) (h : u < 18446744073709551616) : (zb u).length ≤ 10 := zb_len 9 u (Nat.lt_of_lt_of_le h (by decide))
theorem zb_mono : ∀ (k u v : Nat), u ≤ k → u ≤ v → (zb u).length ≤ (zb v).length
  | 0, u, v, hk, _ => by
    rw [zb_lo (by omega)]
    exact zb_pos v
  | k + 1, u, v, hk, h => by
    by_cases h2 : u < 128
    · rw [zb_lo h2]
      exact zb_pos v
    · rw [zb_hi h2, zb_hi (u := v) (by omega)]
      simp only [List.length_cons]
      have := zb_mono k (u / 128) (v / 128) (by omega) (Nat.div_le_div_right h)
      omega
/-- What is read of groups. -/
def zv : List UInt8 → Nat
  | [] => 0
  | c :: l => c.toNat % 128 + 128 * zv l
theorem zv_zb (u : Nat) : zv (zb u) = u := by
  induction u using Nat.strongRecOn with
  | _ u ih =>
    by_cases h : u < 128
    · rw [zb_lo h, zv, zv, UInt8.toNat_ofNat']
      omega
    · rw [zb_hi h, zv, ih (u / 128) (by omega), UInt8.toNat_ofNat']
      omega
theorem zv_snoc : ∀ (l : List UInt8) (c : UInt8), zv (l ++ [c]) = zv l + c.toNat % 128 * 128 ^ l.length
  | [], c => by simp [zv]
  | d :: l, c => by
    rw [List.cons_append, zv, zv_snoc l c, zv, List.length_cons, Nat.pow_succ, Nat.mul_add, ← Nat.add_assoc, Nat.mul_left_comm, Nat.mul_comm 128 (128 ^ _)]
/-- Groups but the last have a mark; the last has none, and is not nothing where it isn't the only one. -/
def Marked : List UInt8 → Prop
  | [] => False
  | [c] => c.toNat < 128
  | c :: d :: l => 128 ≤ c.toNat ∧ Marked (d :: l)
theorem zb_marked (u : Nat) : Marked (zb u) := by
  induction u using Nat.strongRecOn with
  | _ u ih =>
    by_cases h : u < 128
    · rw [zb_lo h, Marked, UInt8.toNat_ofNat']
      omega
    · rw [zb_hi h]
      have := ih (u / 128) (by omega)
      cases hz : zb (u / 128) with
      | nil => rw [hz] at this; exact this.elim
      | cons d l =>
        rw [hz] at this
        refine ⟨?_, this⟩
        rw [UInt8.toNat_ofNat']
        omega
theorem zb_last (u : Nat) : 2 ≤ (zb u).length → (zb u).getLast? ≠ some 0 := by
  induction u using Nat.strongRecOn with
  | _ u ih =>
    intro hl
    by_cases h : u < 128
    · rw [zb_lo h] at hl; simp at hl
    · rw [zb_hi h] at hl ⊢
      cases hz : zb (u / 128) with
      | nil => have := zb_pos (u / 128); rw [hz] at this; simp at this
      | cons d l =>
        rw [List.getLast?_cons_cons]
        by_cases h2 : 2 ≤ (zb (u / 128)).length
        · have := ih (u / 128) (by omega) h2
          rw [hz] at this
          exact this
        · rw [hz] at h2
          have hl0 : l = [] := by
            cases l with
            | nil => rfl
            | cons x y => simp at h2
          subst hl0
          by_cases h3 : u / 128 < 128
          · rw [zb_lo h3] at hz
            injection hz with hz _
            rw [List.getLast?_singleton, ← hz]
            intro e
            have := congrArg UInt8.toNat (Option.some.inj e)
            rw [UInt8.toNat_ofNat'] at this
            simp at this
            omega
          · rw [zb_hi h3] at hz
            have hp := zb_pos (u / 128 / 128)
            injection hz with _ hz
            rw [hz] at hp
            simp at hp
/-- Where the first group without a mark stands. -/
def firstLow (B : List UInt8) : Option Nat := B.findIdx? (fun c => decide (c.toNat < 128))
theorem firstLow_marked : ∀ (l r : List UInt8), Marked l → firstLow (l ++ r) = some (l.length - 1)
  | [], _, h => h.elim
  | [c], r, h => by
    unfold firstLow
    rw [List.singleton_append, List.findIdx?_cons, decide_eq_true (show c.toNat < 128 from h)]
    rfl
  | c :: d :: l, r, h => by
    have ih := firstLow_marked (d :: l) r h.2
    unfold firstLow at ih ⊢
    rw [List.cons_append, List.findIdx?_cons, decide_eq_false (by have := h.1; omega), ih]
    simp
/-- What a zigzag that is read off octets is, and what is left; none: it fails. -/
def rZig (B : List UInt8) : Option (Int × List UInt8) :=
  match firstLow B with
  | none => none
  | some k => if 10 ≤ k then none else if zb (zv (B.take (k + 1)) % 18446744073709551616) = B.take (k + 1) then some (zag (zv (B.take (k + 1)) % 18446744073709551616), B.drop (k + 1)) else none
theorem rZig_zb (u : Nat) (h : u < 18446744073709551616) (r : List UInt8) : rZig (zb u ++ r) = some (zag u, r) := by
  have hp := zb_pos u
  have hl := zb_len64 u h
  have e : (zb u).length - 1 + 1 = (zb u).length := by omega
  have ht : (zb u ++ r).take ((zb u).length - 1 + 1) = zb u := by rw [e, List.take_left]
  have hd : (zb u ++ r).drop ((zb u).length - 1 + 1) = r := by rw [e, List.drop_left]
  rw [rZig, firstLow_marked _ _ (zb_marked u)]
  simp only [ht, hd, zv_zb, Nat.mod_eq_of_lt h]
  rw [if_neg (by omega), if_pos trivial]
end Go.Proofs.Ytgpnmmgoachajaa
