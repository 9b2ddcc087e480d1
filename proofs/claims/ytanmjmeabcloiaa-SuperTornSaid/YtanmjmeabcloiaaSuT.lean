/- Superblocks (layer 5), in plain Lean: of a torn one, the greatest generation. -/
import Derived.Test.YtanmjmeabcloiaaSup
namespace Go.Proofs.Ytanmjmeabcloiaa
open Go.RowKit
open Go.Proofs

/-- A stretch of two that were joined at k. -/
theorem mix_mid (P S : List UInt8) (k i n N : Nat) (hP : P.length = N) (hS : S.length = N) (hk : k ≤ N) (hi : i + n ≤ N) :
    ((P.take k ++ S.drop k).drop i).take n = ((P.drop i).take n).take (k - i) ++ ((S.drop i).take n).drop (k - i) := by
  apply List.ext_getElem?
  intro j
  have lp : (P.take k).length = k := by rw [List.length_take]; omega
  by_cases hj : j < n
  · rw [List.getElem?_take, if_pos hj, List.getElem?_drop]
    by_cases h : i + j < k
    · rw [List.getElem?_append_left (by rw [lp]; exact h), List.getElem?_append_left (by simp only [List.length_take, List.length_drop]; omega),
        List.getElem?_take, if_pos h, List.getElem?_take, if_pos (by omega), List.getElem?_take, if_pos hj, List.getElem?_drop]
    · have l2 : (((P.drop i).take n).take (k - i)).length = k - i := by simp only [List.length_take, List.length_drop]; omega
      rw [List.getElem?_append_right (by rw [lp]; omega), List.getElem?_append_right (by rw [l2]; omega), lp, l2, List.getElem?_drop, List.getElem?_drop, List.getElem?_take, if_pos (by omega), List.getElem?_drop]
      congr 1
      omega
  · rw [List.getElem?_take, if_neg hj, List.getElem?_eq_none]
    simp only [List.length_append, List.length_take, List.length_drop]
    omega
theorem le_small (g : Int) (h1 : 0 ≤ g) (h2 : g ≤ 255) : leN 8 (u64of g) = UInt8.ofNat g.toNat :: zer 7 := by
  have hu : u64of g = g.toNat := by unfold u64of; omega
  rw [hu]
  obtain ⟨m, hm⟩ : ∃ m, g.toNat = m := ⟨_, rfl⟩
  rw [hm]
  have hm2 : m ≤ 255 := by omega
  have hd : m / 256 = 0 := by omega
  simp only [leN, hd]
  rfl
theorem small_mix (g h : Int) (h1 : 0 ≤ g) (h2 : g ≤ 255) (h3 : 0 ≤ h) (h4 : h ≤ 255) (i : Nat) :
    (leN 8 (u64of h)).take i ++ (leN 8 (u64of g)).drop i = if i = 0 then leN 8 (u64of g) else leN 8 (u64of h) := by
  rw [le_small g h1 h2, le_small h h3 h4]
  cases i with
  | zero => rfl
  | succ i =>
    rw [if_neg (by omega), List.take_succ_cons, List.drop_succ_cons, List.cons_append, List.take_append_drop]
theorem num_small (g : Int) (h1 : 0 ≤ g) (h2 : g ≤ 255) : i64of (getN (leN 8 (u64of g))) = g := by
  rw [getN_num g 8 h1 (by simp only [Nat.reducePow]; omega) (by omega), i64of_lo _ (by omega)]
  omega
/-- The number at a place of a generation, in a torn one with a sector of zeros behind it. -/
theorem torn_num (s t : Sup) (h1 : 0 ≤ s.gen) (h2 : s.gen ≤ 255) (h3 : 0 ≤ t.gen) (h4 : t.gen ≤ 255) (k : Nat) (hk : k ≤ 128) (i : Nat) (hi : i + 8 ≤ 128)
    (hs : ((supPut s).drop i).take 8 = leN 8 (u64of s.gen)) (ht : ((supPut t).drop i).take 8 = leN 8 (u64of t.gen)) (Z : List UInt8) :
    numAt (((supPut t).take k ++ (supPut s).drop k) ++ Z) i 8 = if k ≤ i then s.gen else t.gen := by
  have hl : ((supPut t).take k ++ (supPut s).drop k).length = 128 := by rw [List.length_append, List.length_take, List.length_drop, length_supPut, length_supPut]; omega
  rw [numAt, List.drop_append_of_le_length (by rw [hl]; omega), List.take_append_of_le_length (by rw [List.length_drop, hl]; omega),
    mix_mid (supPut t) (supPut s) k i 8 128 (length_supPut t) (length_supPut s) hk hi, hs, ht, small_mix s.gen t.gen h1 h2 h3 h4]
  by_cases h : k ≤ i
  · rw [if_pos (by omega), if_pos h, num_small _ h1 h2]
  · rw [if_neg (by omega), if_neg h, num_small _ h3 h4]
theorem zero_num (X : List UInt8) (hX : X.length = 128) (i : Nat) (h1 : 128 ≤ i) (h2 : i + 8 ≤ 256) : numAt (X ++ zer 128) i 8 = 0 := by
  rw [numAt, List.drop_append, List.drop_eq_nil_of_le (by omega), List.nil_append, hX, zer, List.drop_replicate, List.take_replicate, Nat.min_eq_left (by omega), show getN (List.replicate 8 (0 : UInt8)) = 0 by decide, i64of_lo _ (by decide)]
  rfl
theorem top_torn (s t : Sup) (hs : supRight s) (hlt : s.gen < t.gen) (h255 : t.gen ≤ 255) (k : Nat) (hk : k ≤ 128) :
    supTop (((supPut t).take k ++ (supPut s).drop k) ++ zer 128) = if k ≤ 4 then s.gen else t.gen := by
  have s1 := hs.1
  have hl : ((supPut t).take k ++ (supPut s).drop k).length = 128 := by rw [List.length_append, List.length_take, List.length_drop, length_supPut, length_supPut]; omega
  rw [supTop, if_pos (by rw [List.length_append, hl, length_zer]), zero_num _ hl 132 (by decide) (by decide), zero_num _ hl 244 (by decide) (by decide),
    torn_num s t (by omega) (by omega) (by omega) h255 k hk 4 (by decide) (gen_first s) (gen_first t), torn_num s t (by omega) (by omega) (by omega) h255 k hk 116 (by decide) (gen_again s) (gen_again t)]
  unfold topStep
  split <;> split <;> (repeat' split) <;> omega
end Go.Proofs.Ytanmjmeabcloiaa
