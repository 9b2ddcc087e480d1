/- Superblocks (layer 5), in plain Lean: their octets, and of which one octets are the sector. -/
import Derived.Test.YtanmjmeabcloiaaCrcMath
import Derived.Test.YtanmjmeabcloiaaNm
namespace Go.Proofs.Ytanmjmeabcloiaa
open Go.RowKit
open Go.Proofs

structure Sup where
  gen : Int
  journal : Int
  area : Int
  which : Int
  len : Int
  sum : Nat
  epoch : Int
  start : Int
deriving DecidableEq
def supRight (s : Sup) : Prop := 1 ≤ s.gen ∧ s.gen ≤ 281474976710656 ∧ 4 ≤ s.journal ∧ s.journal ≤ 4096 ∧ 1 ≤ s.area ∧ s.area ≤ 4096 ∧ 0 ≤ s.which ∧ s.which ≤ 1 ∧ 0 ≤ s.len ∧ s.len ≤ 128 * s.area ∧ 1 ≤ s.epoch ∧ s.epoch ≤ 2147483648 ∧ 0 ≤ s.start ∧ s.start < s.journal
instance (s : Sup) : Decidable (supRight s) := by unfold supRight; infer_instance
def zer (n : Nat) : List UInt8 := List.replicate n 0
theorem length_zer (n : Nat) : (zer n).length = n := List.length_replicate
def supNums (s : Sup) : List Int := [s.journal, s.area, s.which, s.len, (s.sum : Int), s.epoch, s.start]
def supMid (s : Sup) : List UInt8 := ((supNums s).map fun n => leN 4 (u64of n)).flatten
theorem length_supMid (s : Sup) : (supMid s).length = 28 := by simp [supMid, supNums, length_leN]
def supBody (s : Sup) : List UInt8 := [77, 79, 84, 72] ++ (leN 8 (u64of s.gen) ++ (supMid s ++ (zer 76 ++ leN 8 (u64of s.gen))))
theorem length_supBody (s : Sup) : (supBody s).length = 124 := by simp [supBody, length_supMid, length_leN, length_zer]
def supPut (s : Sup) : List UInt8 := Mb.seal_ (supBody s)
theorem length_supPut (s : Sup) : (supPut s).length = 128 := by rw [supPut, Mb.seal_length, length_supBody]
/-- The number of n octets from i on. -/
def numAt (b : List UInt8) (i n : Nat) : Int := i64of (getN ((b.drop i).take n))
def supDec (b : List UInt8) : Sup := ⟨numAt b 4 8, numAt b 12 4, numAt b 16 4, numAt b 20 4, numAt b 24 4, getN ((b.drop 28).take 4), numAt b 32 4, numAt b 36 4⟩
def supGet (b : List UInt8) : Option Sup := if b.length = 128 ∧ supRight (supDec b) ∧ supPut (supDec b) = b then some (supDec b) else none
theorem num_mid (p q r : List UInt8) (i n : Nat) (hp : p.length = i) (hq : q.length = n) : ((p ++ (q ++ r)).drop i).take n = q := by
  subst hp; subst hq
  rw [List.drop_left, List.take_left]
theorem getN_leNs : ∀ (k N : Nat), getN (leN k N) = N % 256 ^ k
  | 0, N => by simp [leN, getN, Nat.mod_one]
  | k + 1, N => by
    rw [leN, getN, getN_leNs k (N / 256), Nat.pow_succ, Nat.mul_comm (256 ^ k) 256, Nat.mod_mul, UInt8.toNat_ofNat']
theorem getN_num (n : Int) (k : Nat) (h1 : 0 ≤ n) (h2 : n.toNat < 256 ^ k) (h3 : n < 18446744073709551616) : getN (leN k (u64of n)) = n.toNat := by
  have : u64of n = n.toNat := by unfold u64of; omega
  rw [getN_leNs, this, Nat.mod_eq_of_lt h2]
theorem num_num (p r : List UInt8) (n : Int) (i k : Nat) (hp : p.length = i) (h1 : 0 ≤ n) (h2 : n.toNat < 256 ^ k) (h3 : n < 9223372036854775808) : numAt (p ++ (leN k (u64of n) ++ r)) i k = n := by
  rw [numAt, num_mid _ _ _ i k hp (length_leN _ _), getN_num n k h1 h2 (by omega), i64of_lo _ (by omega)]
  omega
theorem dec_put (s : Sup) (h : supRight s) (hs : s.sum < 4294967296) : supDec (supPut s) = s := by
  obtain ⟨gen, journal, area, which, len, sum, epoch, start⟩ := s
  obtain ⟨a1, a2, a3, a4, a5, a6, a7, a8, a9, a10, a11, a12, a13, a14⟩ := h
  simp only at a1 a2 a3 a4 a5 a6 a7 a8 a9 a10 a11 a12 a13 a14 hs
  have e : supPut ⟨gen, journal, area, which, len, sum, epoch, start⟩ = [77, 79, 84, 72] ++ (leN 8 (u64of gen) ++ (leN 4 (u64of journal) ++ (leN 4 (u64of area) ++ (leN 4 (u64of which) ++ (leN 4 (u64of len) ++ (leN 4 (u64of (sum : Int)) ++ (leN 4 (u64of epoch) ++ (leN 4 (u64of start) ++ (zer 76 ++ (leN 8 (u64of gen) ++ Mb.le4 (Mb.crcSum (supBody ⟨gen, journal, area, which, len, sum, epoch, start⟩))))))))))))  := by
    simp [supPut, Mb.seal_, supBody, supMid, supNums]
  generalize Mb.le4 (Mb.crcSum (supBody ⟨gen, journal, area, which, len, sum, epoch, start⟩)) = T at e
  have g (p q r x : List UInt8) : p ++ (q ++ (r ++ x)) = (p ++ q) ++ (r ++ x) := by simp
  have e1 := e
  have e2 := e1; rw [g] at e2
  have e3 := e2; rw [g] at e3
  have e4 := e3; rw [g] at e4
  have e5 := e4; rw [g] at e5
  have e6 := e5; rw [g] at e6
  have e7 := e6; rw [g] at e7
  have e8 := e7; rw [g] at e8
  unfold supDec
  congr 1
  · rw [e1, num_num _ _ _ _ _ (by simp) (by omega) (by simp only [Nat.reducePow]; omega) (by omega)]
  · rw [e2, num_num _ _ _ _ _ (by simp [length_leN]) (by omega) (by simp only [Nat.reducePow]; omega) (by omega)]
  · rw [e3, num_num _ _ _ _ _ (by simp [length_leN]) (by omega) (by simp only [Nat.reducePow]; omega) (by omega)]
  · rw [e4, num_num _ _ _ _ _ (by simp [length_leN]) (by omega) (by simp only [Nat.reducePow]; omega) (by omega)]
  · rw [e5, num_num _ _ _ _ _ (by simp [length_leN]) (by omega) (by simp only [Nat.reducePow]; omega) (by omega)]
  · rw [e6, num_mid _ _ _ 28 4 (by simp [length_leN]) (length_leN _ _), getN_num _ _ (by omega) (by simp only [Nat.reducePow]; omega) (by omega)]
    omega
  · rw [e7, num_num _ _ _ _ _ (by simp [length_leN]) (by omega) (by simp only [Nat.reducePow]; omega) (by omega)]
  · rw [e8, num_num _ _ _ _ _ (by simp [length_leN]) (by omega) (by simp only [Nat.reducePow]; omega) (by omega)]
theorem get_put (s : Sup) (h : supRight s) (hs : s.sum < 4294967296) : supGet (supPut s) = some s := by
  rw [supGet, dec_put s h hs, if_pos ⟨length_supPut s, h, rfl⟩]
/-- What is told of octets is what was put. -/
theorem get_some {b : List UInt8} {s : Sup} (h : supGet b = some s) : supRight s ∧ supPut s = b ∧ s.sum < 4294967296 := by
  unfold supGet at h
  split at h
  · rename_i hc
    cases h
    refine ⟨hc.2.1, hc.2.2, ?_⟩
    have := getN_lt ((b.drop 28).take 4)
    have h2 : ((b.drop 28).take 4).length ≤ 4 := by rw [List.length_take]; omega
    have h3 : (256 : Nat) ^ ((b.drop 28).take 4).length ≤ 256 ^ 4 := Nat.pow_le_pow_right (by decide) h2
    exact Nat.lt_of_lt_of_le this h3
  · cases h
/-- A turned octet. -/
theorem get_turned (s : Sup) (k : Nat) (hk : k < 128) (c : UInt8) (hc : (supPut s)[k]'(by rw [length_supPut]; exact hk) ≠ c) : supGet ((supPut s).set k c) = none := by
  have hl : k < (supPut s).length := by rw [length_supPut]; exact hk
  cases hg : supGet ((supPut s).set k c) with
  | none => rfl
  | some t =>
    exfalso
    obtain ⟨_, h2, _⟩ := get_some hg
    have h3 : Mb.isSealed ((supPut s).set k c) = true := by rw [← h2]; exact Mb.isSealed_seal _
    rw [Mb.isSealed_set (supPut s) (Mb.isSealed_seal _) k hl c] at h3
    exact hc (of_decide_eq_true h3)
/-- Octets that agree from 4 to 40 tell of the same superblock. -/
theorem dec_same (x y : List UInt8) (h : (x.drop 4).take 36 = (y.drop 4).take 36) : supDec x = supDec y := by
  have e : ∀ i n, 4 ≤ i → i + n ≤ 40 → (x.drop i).take n = (y.drop i).take n := by
    intro i n h1 h2
    have f : ∀ z : List UInt8, (z.drop i).take n = (((z.drop 4).take 36).drop (i - 4)).take n := by
      intro z
      rw [List.drop_take, List.drop_drop, List.take_take, show 4 + (i - 4) = i by omega, Nat.min_eq_left (by omega)]
    rw [f x, f y, h]
  unfold supDec numAt
  simp only [e 4 8 (by omega) (by omega), e 12 4 (by omega) (by omega), e 16 4 (by omega) (by omega), e 20 4 (by omega) (by omega), e 24 4 (by omega) (by omega), e 28 4 (by omega) (by omega), e 32 4 (by omega) (by omega), e 36 4 (by omega) (by omega)]
theorem put_inj {s t : Sup} (hs : supRight s) (hs2 : s.sum < 4294967296) (ht : supRight t) (ht2 : t.sum < 4294967296) (h : supPut s = supPut t) : s = t := by
  rw [← dec_put s hs hs2, h, dec_put t ht ht2]
theorem gen_again (s : Sup) : ((supPut s).drop 116).take 8 = leN 8 (u64of s.gen) := by
  have e : supPut s = ([77, 79, 84, 72] ++ leN 8 (u64of s.gen) ++ supMid s ++ zer 76) ++ (leN 8 (u64of s.gen) ++ Mb.le4 (Mb.crcSum (supBody s))) := by
    simp [supPut, Mb.seal_, supBody]
  rw [e, num_mid _ _ _ 116 8 (by simp [length_leN, length_supMid, length_zer]) (length_leN _ _)]
theorem gen_first (s : Sup) : ((supPut s).drop 4).take 8 = leN 8 (u64of s.gen) := by
  have e : supPut s = [77, 79, 84, 72] ++ (leN 8 (u64of s.gen) ++ (supMid s ++ (zer 76 ++ (leN 8 (u64of s.gen) ++ Mb.le4 (Mb.crcSum (supBody s)))))) := by
    simp [supPut, Mb.seal_, supBody]
  rw [e, num_mid _ _ _ 4 8 rfl (length_leN _ _)]
theorem get_first4 (s : Sup) : (supPut s).take 4 = [77, 79, 84, 72] := by
  simp [supPut, Mb.seal_, supBody]
theorem get_halves {x : List UInt8} {u : Sup} (h : supGet x = some u) : (x.drop 4).take 8 = leN 8 (u64of u.gen) ∧ (x.drop 116).take 8 = leN 8 (u64of u.gen) := by
  obtain ⟨h1, h2, h3⟩ := get_some h
  rw [← h2, gen_first, gen_again]
  exact ⟨rfl, rfl⟩
theorem le_head (N : Nat) : (leN 8 N)[0]? = some (UInt8.ofNat N) := rfl
/-- One that is torn over an elder one: what is told of it. -/
theorem get_torn (s t : Sup) (hs : supRight s) (hs2 : s.sum < 4294967296) (ht : supRight t) (ht2 : t.sum < 4294967296) (hlt : s.gen < t.gen) (h255 : t.gen ≤ 255) (k : Nat) (hk : k ≤ 128) (u : Sup)
    (h : supGet ((supPut t).take k ++ (supPut s).drop k) = some u) : u = s ∨ u = t := by
  have lt := length_supPut t
  have ls := length_supPut s
  by_cases k4 : k ≤ 4
  · left
    have e : (supPut t).take k ++ (supPut s).drop k = supPut s := by
      have e1 : (supPut t).take k = (supPut s).take k := by
        rw [← Nat.min_eq_left k4, ← List.take_take, ← List.take_take, get_first4, get_first4]
      rw [e1, List.take_append_drop]
    rw [e, get_put s hs hs2] at h
    exact (Option.some.inj h).symm
  by_cases k117 : k < 117
  · exfalso
    obtain ⟨h1, h2⟩ := get_halves h
    have g0 : ∀ (x : List UInt8) (i : Nat), ((x.drop i).take 8)[0]? = x[i]? := fun x i => by simp [List.getElem?_drop]
    have a1 := g0 ((supPut t).take k ++ (supPut s).drop k) 4
    have a2 := g0 ((supPut t).take k ++ (supPut s).drop k) 116
    have b1 := g0 (supPut t) 4
    have b2 := g0 (supPut s) 116
    rw [h1] at a1
    rw [h2] at a2
    rw [gen_first] at b1
    rw [gen_again] at b2
    rw [List.getElem?_append_left (by rw [List.length_take]; omega), List.getElem?_take, if_pos (by omega), ← b1, le_head, le_head] at a1
    rw [List.getElem?_append_right (by rw [List.length_take]; omega), List.length_take, Nat.min_eq_left (by omega), List.getElem?_drop, show k + (116 - k) = 116 by omega, ← b2, le_head, le_head] at a2
    have e := (Option.some.inj a1).symm.trans (Option.some.inj a2)
    have e2 := congrArg UInt8.toNat e
    rw [UInt8.toNat_ofNat', UInt8.toNat_ofNat'] at e2
    have := hs.1
    unfold u64of at e2
    omega
  · right
    have e := dec_same ((supPut t).take k ++ (supPut s).drop k) (supPut t) (by
      rw [List.drop_append_of_le_length (by rw [List.length_take]; omega), List.take_append_of_le_length (by rw [List.length_drop, List.length_take]; omega), List.drop_take, List.take_take, Nat.min_eq_left (by omega)])
    unfold supGet at h
    rw [e, dec_put t ht ht2] at h
    split at h
    · exact (Option.some.inj h).symm
    · cases h
/-- A beginning of one over nothing. -/
theorem get_part (t : Sup) (ht : supRight t) (ht2 : t.sum < 4294967296) (k : Nat) (hk : k < 128) (u : Sup)
    (h : supGet ((supPut t).take k ++ zer (128 - k)) = some u) : u = t := by
  have lt := length_supPut t
  by_cases k117 : k < 117
  · exfalso
    obtain ⟨_, h2⟩ := get_halves h
    obtain ⟨r, _, _⟩ := get_some h
    have hz : (((supPut t).take k ++ zer (128 - k)).drop 116).take 8 = zer 8 := by
      rw [List.drop_append, List.length_take, Nat.min_eq_left (by omega), List.drop_eq_nil_of_le (by rw [List.length_take]; omega), List.nil_append]
      unfold zer
      rw [List.drop_replicate, List.take_replicate, Nat.min_eq_left (by omega)]
    rw [hz] at h2
    have h3 := congrArg getN h2
    rw [getN_num _ _ (by have := r.1; omega) (by simp only [Nat.reducePow]; have := r.2.1; omega) (by have := r.2.1; omega)] at h3
    have : getN (zer 8) = 0 := by decide
    have := r.1
    omega
  · have e := dec_same ((supPut t).take k ++ zer (128 - k)) (supPut t) (by
      rw [List.drop_append_of_le_length (by rw [List.length_take]; omega), List.take_append_of_le_length (by rw [List.length_drop, List.length_take]; omega), List.drop_take, List.take_take, Nat.min_eq_left (by omega)])
    unfold supGet at h
    rw [e, dec_put t ht ht2] at h
    split at h
    · exact (Option.some.inj h).symm
    · cases h
/-- One of two sectors, by its generation's parity. -/
def supPick (o : Option Sup) (i : Int) : Option Sup := match o with | some s => if s.gen % 2 = i then some s else none | none => none
def supNewer : Option Sup → Option Sup → Option Sup
  | none, y => y
  | some x, none => some x
  | some x, some y => if x.gen < y.gen then some y else some x
def supNewest (b : List UInt8) : Option Sup := if b.length = 256 then supNewer (supPick (supGet (b.take 128)) 0) (supPick (supGet (b.drop 128)) 1) else none
def topStep (top n : Int) : Int := if top < n ∧ n ≤ 281474976710656 then n else top
def supTop (b : List UInt8) : Int := if b.length = 256 then topStep (topStep (topStep (topStep 0 (numAt b 4 8)) (numAt b 116 8)) (numAt b 132 8)) (numAt b 244 8) else 0
theorem pick_some {o : Option Sup} {i : Int} {s : Sup} (h : supPick o i = some s) : o = some s ∧ s.gen % 2 = i := by
  unfold supPick at h
  split at h
  · split at h
    · rename_i e; cases h; exact ⟨rfl, e⟩
    · cases h
  · cases h
end Go.Proofs.Ytanmjmeabcloiaa
