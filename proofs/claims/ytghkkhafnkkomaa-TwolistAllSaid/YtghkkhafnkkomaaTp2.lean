/- Victims one behind the other: which are left, in plain Lean; and an array of bools in memory. -/
import Derived.Test.YtghkkhafnkkomaaTp
namespace Go.Proofs.Ytghkkhafnkkomaa
open Go.RowKit
open Go.Proofs

/-- How many of the first k are not gone. -/
def cnt (gs : Nat → Bool) : Nat → Nat
  | 0 => 0
  | k + 1 => cnt gs k + (if gs k then 0 else 1)
def updB (gs : Nat → Bool) (i : Nat) : Nat → Bool := fun j => if j = i then true else gs j
theorem updB_ne (gs : Nat → Bool) {i k : Nat} (h : k ≠ i) : updB gs i k = gs k := by unfold updB; rw [if_neg h]
theorem cnt_out (gs : Nat → Bool) (i : Nat) : ∀ k, k ≤ i → cnt (updB gs i) k = cnt gs k
  | 0, _ => rfl
  | k + 1, h => by rw [cnt, cnt, cnt_out gs i k (by omega), updB_ne gs (by omega)]
theorem cnt_set (gs : Nat → Bool) (i : Nat) (hg : gs i = false) : ∀ k, i < k → cnt (updB gs i) k + 1 = cnt gs k
  | 0, h => by omega
  | k + 1, h => by
    rw [cnt, cnt]
    by_cases e : i = k
    · subst e
      rw [cnt_out gs i i (Nat.le_refl _), hg, updB, if_pos rfl]
      simp
    · have := cnt_set gs i hg k (by omega)
      rw [updB_ne gs (by omega)]
      omega
theorem cnt_pos (gs : Nat → Bool) : ∀ k, 0 < cnt gs k → ∃ i, i < k ∧ gs i = false
  | 0, h => by simp [cnt] at h
  | k + 1, h => by
    cases hk : gs k with
    | false => exact ⟨k, by omega, hk⟩
    | true =>
      rw [cnt, hk] at h
      obtain ⟨i, h1, h2⟩ := cnt_pos gs k (by simpa using h)
      exact ⟨i, by omega, h2⟩
theorem cnt_zero (gs : Nat → Bool) : ∀ k, cnt gs k = 0 → ∀ i, i < k → gs i = true
  | 0, _, i, hi => by omega
  | k + 1, h, i, hi => by
    rw [cnt] at h
    cases hk : gs k with
    | false => rw [hk] at h; simp at h
    | true =>
      by_cases e : i = k
      · subst e; exact hk
      · exact cnt_zero gs k (by omega) i (by omega)
theorem cnt_le (gs : Nat → Bool) : ∀ k, cnt gs k ≤ k
  | 0 => Nat.le_refl _
  | k + 1 => by rw [cnt]; have := cnt_le gs k; split <;> omega
theorem cnt_none : ∀ k, cnt (fun _ => false) k = k
  | 0 => rfl
  | k + 1 => by rw [cnt, cnt_none k]; simp

/-- What stands in the lists while victims go. -/
structure Going (K : Nat) (hl : List Int) (gs : Nat → Bool) (A I : List Int) : Prop where
  nodup : (A ++ I).Nodup
  mem : ∀ x, (x ∈ A ∨ x ∈ I) ↔ ∃ i : Nat, i < K ∧ x = (i : Int) ∧ (gs i = false ∨ (i : Int) ∈ hl)
  held : ∀ i : Nat, i < K → (i : Int) ∈ hl → gs i = true
theorem Good.going {K : Nat} {hl A I : List Int} {gs : Nat → Bool} (h : Good K A I) (hg : ∀ i : Nat, i < K → gs i = decide ((i : Int) ∈ hl)) : Going K hl gs A I := by
  refine ⟨h.nodup, fun x => ?_, fun i hi hm => by rw [hg i hi]; exact decide_eq_true hm⟩
  rw [h.mem]
  constructor
  · rintro ⟨h0, h1⟩
    refine ⟨x.toNat, by omega, by omega, ?_⟩
    rw [hg x.toNat (by omega)]
    by_cases e : ((x.toNat : Nat) : Int) ∈ hl
    · exact .inr e
    · exact .inl (decide_eq_false e)
  · rintro ⟨i, hi, rfl, _⟩
    omega
/-- While one is left the victim is one that is not gone. -/
theorem Going.victim {K : Nat} {hl A I : List Int} {gs : Nat → Bool} (h : Going K hl gs A I) (hp : 0 < cnt gs K) : ∃ i : Nat, i < K ∧ victim hl A I = (i : Int) ∧ gs i = false := by
  obtain ⟨i, hi, hg⟩ := cnt_pos gs K hp
  have hf : free hl (i : Int) = true := by
    have : (i : Int) ∉ hl := fun e => by rw [h.held i hi e] at hg; cases hg
    simp [free, this]
  have hm : (i : Int) ∈ I ++ A := by
    rw [List.mem_append, or_comm]
    exact (h.mem _).2 ⟨i, hi, rfl, .inl hg⟩
  cases hv : (I ++ A).find? (free hl) with
  | none =>
    rw [List.find?_eq_none] at hv
    exact absurd hf (hv _ hm)
  | some z =>
    have hz := List.mem_of_find?_eq_some hv
    have hzf := List.find?_some hv
    rw [List.mem_append, or_comm] at hz
    obtain ⟨m, hm1, rfl, hm2⟩ := (h.mem _).1 hz
    refine ⟨m, hm1, by rw [Go.Proofs.Ytghkkhafnkkomaa.victim, hv]; rfl, ?_⟩
    rcases hm2 with e | e
    · exact e
    · simp [free, e] at hzf
theorem Going.none {K : Nat} {hl A I : List Int} {gs : Nat → Bool} (h : Going K hl gs A I) (hp : cnt gs K = 0) : Go.Proofs.Ytghkkhafnkkomaa.victim hl A I = -1 := by
  have hv : (I ++ A).find? (free hl) = Option.none := by
    rw [List.find?_eq_none]
    intro x hx
    rw [List.mem_append, or_comm] at hx
    obtain ⟨m, hm1, rfl, hm2⟩ := (h.mem _).1 hx
    rcases hm2 with e | e
    · rw [cnt_zero gs K hp m hm1] at e; cases e
    · simp [free, e]
  rw [Go.Proofs.Ytghkkhafnkkomaa.victim, hv]
  rfl
theorem Going.remove {K : Nat} {hl A I : List Int} {gs : Nat → Bool} (h : Going K hl gs A I) {i : Nat} (hi : i < K) (hg : gs i = false) : Going K hl (updB gs i) (tRemove (i : Int) A I).1 (tRemove (i : Int) A I).2 := by
  have hp := even_perm (A.erase (i : Int)) (I.erase (i : Int))
  have hin : (i : Int) ∈ A ∨ (i : Int) ∈ I := (h.mem _).2 ⟨i, hi, rfl, .inl hg⟩
  have hq := erase_both h.nodup hin
  have hnd : ((i : Int) :: (A.erase (i : Int) ++ I.erase (i : Int))).Nodup := hq.nodup_iff.2 h.nodup
  rw [List.nodup_cons] at hnd
  have hmem : ∀ x, (x ∈ (tRemove (i : Int) A I).1 ∨ x ∈ (tRemove (i : Int) A I).2) ↔ (x ≠ (i : Int) ∧ (x ∈ A ∨ x ∈ I)) := by
    intro x
    rw [← List.mem_append, ← List.mem_append (s := A), tRemove, hp.mem_iff, ← hq.mem_iff, List.mem_cons]
    constructor
    · intro e
      refine ⟨?_, .inr e⟩
      rintro rfl
      exact hnd.1 e
    · rintro ⟨e, e2 | e2⟩
      · exact absurd e2 e
      · exact e2
  refine ⟨hp.nodup_iff.2 hnd.2, fun x => ?_, fun m hm e => ?_⟩
  · rw [hmem, h.mem]
    constructor
    · rintro ⟨e, m, hm, rfl, h2⟩
      refine ⟨m, hm, rfl, ?_⟩
      rw [updB, if_neg (by omega)]
      exact h2
    · rintro ⟨m, hm, rfl, h2⟩
      have hne : m ≠ i := by
        rintro rfl
        rcases h2 with e | e
        · simp [updB] at e
        · rw [h.held m hm e] at hg; cases hg
      rw [updB, if_neg hne] at h2
      exact ⟨by omega, m, hm, rfl, h2⟩
  · unfold updB
    split
    · rfl
    · exact h.held m hm e

/-- An array of thirty bools in a block. -/
def Bools (w : World) (t : TypeId) (B : Nat) (N : Nat) (gs : Nat → Bool) : Prop :=
  ∃ cur, w.heap[B]? = some (.cells cur t (0, 0)) ∧ cur.size = N ∧ ∀ i, i < N → cur[i]? = some (.bool (gs i))
section
variable {w w' : World} {t : TypeId} {B N : Nat} {gs : Nat → Bool}
theorem Bools.upd {F : Nat → Prop} (h : Bools w t B N gs) (u : Upd F w w') (hf : ¬ F B) : Bools w' t B N gs := by
  obtain ⟨cur, h1, h2, h3⟩ := h
  exact ⟨cur, u.heap h1 hf, h2, h3⟩
theorem Bools.ext (h : Bools w t B N gs) (u : Ext w w') : Bools w' t B N gs := h.upd (Upd.of_ext (fun _ => False) u) (fun x => x)
theorem Bools.lt (h : Bools w t B N gs) : B < w.heap.size := by
  obtain ⟨cur, h1, _⟩ := h
  rcases Nat.lt_or_ge B w.heap.size with x | x
  · exact x
  · rw [Array.getElem?_eq_none x] at h1; cases h1
theorem Bools.cell (h : Bools w t B N gs) {i : Nat} (hi : i < N) : w.cell? ⟨B, i, none⟩ = some (.bool (gs i)) ∧ w.frozen? ⟨B, i, none⟩ = false := by
  obtain ⟨cur, h1, h2, h3⟩ := h
  exact ⟨by rw [cell_of_row w B i cur t (0, 0) h1]; exact h3 i hi, frozen_of_row w B i cur t h1⟩
theorem Bools.set (h : Bools w t B N gs) {i : Nat} (_ : i < N) : Bools (w.setCell ⟨B, i, none⟩ (.bool true)) t B N (updB gs i) := by
  obtain ⟨cur, h1, h2, h3⟩ := h
  refine ⟨_, heap_setCell_same w B i cur t (.bool true) h1, by simpa using h2, fun j hj => ?_⟩
  rw [Array.getElem?_setIfInBounds]
  unfold updB
  by_cases e : i = j
  · subst e
    rw [if_pos rfl, if_pos rfl, if_pos (by omega)]
  · rw [if_neg e, if_neg (fun x => e x.symm)]
    exact h3 j hj
end
end Go.Proofs.Ytghkkhafnkkomaa
