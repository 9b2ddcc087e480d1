/- While nothing is touched victims come as they were added: the law's walk. -/
import Derived.Test.YtanmjmeabcloiaaAw22
namespace Go.Proofs.Ytanmjmeabcloiaa
open Go.RowKit
open Go.Proofs

/-- '((x % n) + n) % n'. -/
theorem round_two (x : Int) (N : Nat) (h : 0 < N) : ∃ (t : Int) (k : Nat), x.tmod (N : Int) = t ∧ -(N : Int) < t ∧ t < (N : Int) ∧ (t + (N : Int)).tmod (N : Int) = (k : Int) ∧ k < N := by
  have h1 : x.tmod (N : Int) < (N : Int) := Int.tmod_lt_of_pos x (by omega)
  have h2 : -(N : Int) < x.tmod (N : Int) := by
    have := Int.tmod_lt_of_pos (-x) (b := (N : Int)) (by omega)
    rw [Int.neg_tmod] at this
    omega
  have h3 : 0 ≤ x.tmod (N : Int) + (N : Int) := by omega
  have h4 := Int.emod_nonneg (x.tmod (N : Int) + (N : Int)) (b := (N : Int)) (by omega)
  have h5 := Int.emod_lt_of_pos (x.tmod (N : Int) + (N : Int)) (b := (N : Int)) (by omega)
  refine ⟨_, ((x.tmod (N : Int) + (N : Int)) % (N : Int)).toNat, rfl, h2, h1, ?_, by omega⟩
  rw [Int.tmod_eq_emod_of_nonneg h3]; omega
theorem mod_nat (a N : Nat) : (a : Int).tmod (N : Int) = ((a % N : Nat) : Int) := by
  rw [Int.tmod_eq_emod_of_nonneg (by omega)]; omega

/-- The places in the order in which they are added. -/
def ord (K s j : Nat) : List Int := (List.range j).map (fun i => (((i + s) % K : Nat) : Int))
theorem ord_succ (K s j : Nat) : ord K s (j + 1) = ord K s j ++ [(((j + s) % K : Nat) : Int)] := by simp [ord, List.range_succ]
theorem ord_length (K s j : Nat) : (ord K s j).length = j := by simp [ord]
theorem ord_get (K s j i : Nat) (h : i < j) : (ord K s j)[i]? = some (((i + s) % K : Nat) : Int) := by simp [ord, h]
theorem ord_new (K s j : Nat) (hj : j < K) : (((j + s) % K : Nat) : Int) ∉ ord K s j := by
  simp only [ord, List.mem_map, List.mem_range, not_exists, not_and]
  intro i hi e
  have e2 : (i + s) % K = (j + s) % K := by omega
  have h1 := Nat.div_add_mod (i + s) K
  have h2 := Nat.div_add_mod (j + s) K
  rw [e2] at h1
  have h3 : K * ((j + s) / K) - K * ((i + s) / K) = j - i := by omega
  rw [← Nat.mul_sub] at h3
  have h4 : 0 < j - i := by omega
  have h5 : 1 ≤ (j + s) / K - (i + s) / K := by
    rcases Nat.eq_zero_or_pos ((j + s) / K - (i + s) / K) with h | h
    · rw [h] at h3; omega
    · exact h
  have h6 : K * 1 ≤ K * ((j + s) / K - (i + s) / K) := Nat.mul_le_mul_left K h5
  omega
theorem tAdd_ord (K s j : Nat) (hj : j < K) : tAdd (K : Int) (((j + s) % K : Nat) : Int) [] (ord K s j) = ([], ord K s (j + 1)) := by
  have h : (j + s) % K < K := Nat.mod_lt _ (by omega)
  rw [tAdd, if_pos ⟨by omega, by omega⟩, List.erase_of_not_mem (ord_new K s j hj), ord_succ]
  rfl
theorem ord_drop (K s j i : Nat) (h : i < j) : (ord K s j).drop i = (((i + s) % K : Nat) : Int) :: (ord K s j).drop (i + 1) := by
  have h2 : i < (ord K s j).length := by rw [ord_length]; exact h
  rw [List.drop_eq_getElem_cons h2]
  congr 1
  have := ord_get K s j i h
  rw [List.getElem?_eq_getElem h2] at this
  exact Option.some.inj this
theorem victim_nil (x : Int) (r : List Int) : victim [] [] (x :: r) = x := by simp [victim, free]
theorem tRemove_head (x : Int) (r : List Int) : tRemove x [] (x :: r) = ([], r) := by simp [tRemove, even]

/-- The blocks of an owner: from base on, and there. -/
def Within (G : Nat → Prop) (base : Nat) (w : World) : Prop := ∀ b, G b → base ≤ b ∧ b < w.heap.size
theorem Within.since {G : Nat → Prop} {base : Nat} {w w' : World} (h : Within G base w) (u : Upd G w w') (hb : base ≤ w.heap.size) : Within (Since G w w') base w' := by
  intro b hb2
  rcases hb2 with x | x
  · exact ⟨(h b x).1, Nat.lt_of_lt_of_le (h b x).2 u.size⟩
  · exact ⟨Nat.le_trans hb x.1, x.2⟩
theorem Within.le {G : Nat → Prop} {base : Nat} {w w' : World} (h : Within G base w) (hs : w.heap.size ≤ w'.heap.size) : Within G base w' := fun b x => ⟨(h b x).1, Nat.lt_of_lt_of_le (h b x).2 hs⟩

theorem Ext.trans' {F : Nat → Prop} {w0 w1 w2 : World} (h : Ext w0 w1) (u : Upd F w1 w2) (hf : ∀ b, F b → w0.heap.size ≤ b) : Ext w0 w2 := u.to_ext h hf

end Go.Proofs.Ytanmjmeabcloiaa
