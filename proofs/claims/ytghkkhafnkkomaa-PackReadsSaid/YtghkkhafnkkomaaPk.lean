/- What is written is read: fields, in plain Lean. -/
import Derived.Test.YtghkkhafnkkomaaPuts
import Derived.Test.YtghkkhafnkkomaaNm
import Derived.Test.YtghkkhafnkkomaaRz3
namespace Go.Proofs.Ytghkkhafnkkomaa
open Go.RowKit
open Go.Proofs

theorem flds_drop (fs : List Fld) (j : Nat) (q : Fld) (h : fs[j]? = some q) : flds (fs.drop j) = fld q ++ flds (fs.drop (j + 1)) := by
  obtain ⟨hj, e⟩ := List.getElem?_eq_some_iff.1 h
  rw [flds, flds, List.drop_eq_getElem_cons hj, List.map_cons, List.flatten_cons, e]
theorem flds_split (fs : List Fld) (j : Nat) : flds fs = flds (fs.take j) ++ flds (fs.drop j) := by
  rw [flds, flds, flds, ← List.flatten_append, ← List.map_append, List.take_append_drop]
theorem flds_small (fs : List Fld) (h : fs.length ≤ 20) (h2 : ∀ (i : Nat) q, fs[i]? = some q → -9223372036854775808 ≤ q.2.1 ∧ q.2.1 ≤ 9223372036854775807) : (flds fs).length ≤ 1310740 := by
  have := flds_le fs h2 fs.length (Nat.le_refl _)
  rw [List.take_length] at this
  omega
theorem rTake_app (l r : List UInt8) (n : Nat) (h : l.length = n) : rTake (n : Int) (l ++ r) false = (l, r, false) := by
  subst h
  rw [rTake, if_neg (by simp; omega), Int.toNat_natCast, List.take_left, List.drop_left]
theorem getN_leN : ∀ (k N : Nat), getN (leN k N) = N % 256 ^ k
  | 0, N => by simp [leN, getN, Nat.mod_one]
  | k + 1, N => by
    rw [leN, getN, getN_leN k (N / 256), Nat.pow_succ, Nat.mul_comm (256 ^ k) 256, Nat.mod_mul, UInt8.toNat_ofNat']
theorem num_back (n size : Int) (r : List UInt8) : rNum size (leN (wid size) (u64of n) ++ r) false = i64of (u64of n % 2 ^ (8 * wid size)) := by
  rw [rNum, rTake_app _ _ _ (length_leN _ _), getN_leN, Nat.pow_mul]
theorem zig_back (n : Int) (r : List UInt8) (h1 : -9223372036854775808 ≤ n) (h2 : n ≤ 9223372036854775807) : zigOut (zb (zz n) ++ r) = (n, r, false) := by
  rw [zigOut, rZig_zb _ (zz_lt n h1 h2), zag_zz]
theorem text_back (t r : List UInt8) (h : t.length ≤ 500) : rText (leN 2 (u64of ((t.take 65535).length : Int)) ++ t.take 65535 ++ r) false = (t, r, false) := by
  rw [List.take_of_length_le (by omega)]
  have hu : u64of (t.length : Int) = t.length := by unfold u64of; omega
  have h2 : rTake 2 (leN 2 (u64of (t.length : Int)) ++ t ++ r) false = (leN 2 (u64of (t.length : Int)), t ++ r, false) := by
    rw [List.append_assoc]
    exact rTake_app _ _ 2 (length_leN _ _)
  have h3 : rNum 2 (leN 2 (u64of (t.length : Int)) ++ t ++ r) false = (t.length : Int) := by
    rw [List.append_assoc]
    have := num_back (t.length : Int) 2 (t ++ r)
    rw [show wid 2 = 2 by decide] at this
    rw [this, hu, Nat.mod_eq_of_lt (by omega), i64of_lo _ (by omega)]
  rw [rText, h3, h2]
  exact rTake_app _ _ _ rfl
theorem RdAt.lt {w : World} {k : Nat} {F : Nat → Prop} {B : List UInt8} {f : Bool} (h : RdAt w k F B f) : k < w.heap.size := by
  obtain ⟨_, _, h⟩ := h
  rcases Nat.lt_or_ge k w.heap.size with x | x
  · exact x
  · have := h.head; rw [Array.getElem?_eq_none x] at this; cases this
theorem Own.octs_form2 {w : World} {base : Nat} {v : Value} {l : List UInt8} (h : Own w base 5 v (octs l)) :
    ∃ A c, v = .slice A l.length c ∧ l.length ≤ c ∧ Octs w A l ∧ (A = none → l = []) ∧ (∀ a, A = some a → ∃ b o, a = ⟨b, o, none⟩) := by
  obtain ⟨A, c, hv, hc, hx⟩ := h.octs_form
  refine ⟨A, c, hv, hc, hx, fun e => ?_, fun a e => ?_⟩
  · subst e
    cases l with
    | nil => rfl
    | cons x l => obtain ⟨_, _, e, _⟩ := hx (by simp [octs]); cases e
  · rcases h.2 with ⟨e2, _⟩ | ⟨g, cap, cur, e2, _⟩
    · rw [hv, e] at e2; injection e2 with e2; cases e2
    · rw [hv, e] at e2; injection e2 with e2; cases e2; exact ⟨_, _, rfl⟩
end Go.Proofs.Ytghkkhafnkkomaa
