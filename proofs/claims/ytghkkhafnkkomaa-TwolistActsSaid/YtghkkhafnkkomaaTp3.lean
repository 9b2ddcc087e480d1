/- Two lists in plain Lean: the code's steps are the document's. -/
import Derived.Test.YtghkkhafnkkomaaTp
import Derived.Test.YtghkkhafnkkomaaPut
namespace Go.Proofs.Ytghkkhafnkkomaa
open Go.RowKit
open Go.Proofs

/-- No place stands twice, all are places, at most half are active. -/
structure Inv (n : Int) (A I : List Int) : Prop where
  nodup : (A ++ I).Nodup
  mem : ∀ x, x ∈ A ∨ x ∈ I → 0 ≤ x ∧ x < n
  half : 2 * A.length ≤ A.length + I.length + 1
theorem inv_nil (n : Int) : Inv n [] [] := ⟨List.nodup_nil, fun x h => by simp at h, by simp⟩
theorem even_id {A I : List Int} (h : 2 * A.length ≤ A.length + I.length + 1) : even A I = (A, I) := by
  cases A with
  | nil => rfl
  | cons a A =>
    rw [even, if_neg]
    simp only [List.length_cons] at h
    omega
theorem without_erase {l : List Int} (x : Int) (h : l.Nodup) : without l x = l.erase x := by
  rw [h.erase_eq_filter, without]
  apply List.filter_congr
  intro y _
  by_cases e : y = x
  · subst e; simp
  · simp [e]
theorem Inv.parts {n : Int} {A I : List Int} (h : Inv n A I) : A.Nodup ∧ I.Nodup ∧ ∀ x, x ∈ A → x ∉ I := by
  have := h.nodup
  rw [List.nodup_append] at this
  exact ⟨this.1, this.2.1, fun x h1 h2 => this.2.2 x h1 x h2 rfl⟩
/-- What even leaves of lists without repeats. -/
theorem Inv.of_even {n : Int} {A I : List Int} (hn : (A ++ I).Nodup) (hm : ∀ x, x ∈ A ∨ x ∈ I → 0 ≤ x ∧ x < n) : Inv n (even A I).1 (even A I).2 ∧ (even A I).1.length + (even A I).2.length = A.length + I.length := by
  have hp := even_perm A I
  refine ⟨⟨hp.nodup_iff.2 hn, fun x hx => hm x ?_, even_half A I⟩, ?_⟩
  · rw [← List.mem_append] at hx ⊢
    exact hp.mem_iff.1 hx
  · have := hp.length_eq
    simpa using this
theorem Inv.add {n : Int} {A I : List Int} (h : Inv n A I) (x : Int) :
    rPut 0 n x A I = tAdd n x A I ∧ Inv n (tAdd n x A I).1 (tAdd n x A I).2 ∧ (tAdd n x A I).1.length + (tAdd n x A I).2.length ≤ A.length + I.length + 1 := by
  obtain ⟨ha, hi, hd⟩ := h.parts
  unfold rPut tAdd
  by_cases hx : 0 ≤ x ∧ x < n
  · rw [if_neg (by omega), if_neg (fun e => absurd e.1 (by decide)), if_neg (by decide), if_pos rfl, if_pos hx, without_erase x ha, without_erase x hi]
    have := Inv.of_even (n := n) (A := A.erase x) (I := I.erase x ++ [x]) (by
      rw [List.nodup_append, List.nodup_append]
      refine ⟨ha.erase x, ⟨hi.erase x, by simp, ?_⟩, ?_⟩
      · intro y hy z hz e
        simp at hz
        subst hz; subst e
        exact (List.Nodup.not_mem_erase hi) hy
      · intro y hy z hz e
        subst e
        rw [List.mem_append, List.mem_singleton] at hz
        rcases hz with hz | hz
        · exact hd y (List.mem_of_mem_erase hy) (List.mem_of_mem_erase hz)
        · subst hz
          exact (List.Nodup.not_mem_erase ha) hy) (by
      intro y hy
      rw [List.mem_append, List.mem_singleton] at hy
      rcases hy with hy | hy | hy
      · exact h.mem y (.inl (List.mem_of_mem_erase hy))
      · exact h.mem y (.inr (List.mem_of_mem_erase hy))
      · subst hy; exact hx)
    refine ⟨rfl, this.1, ?_⟩
    have h1 := erase_le A x
    have h2 := erase_le I x
    rw [this.2]
    simp; omega
  · rw [if_pos (by omega), if_neg hx]
    exact ⟨rfl, h, Nat.le_succ _⟩
theorem Inv.touch {n : Int} {A I : List Int} (h : Inv n A I) (x : Int) :
    rPut 1 n x A I = tTouch n x A I ∧ Inv n (tTouch n x A I).1 (tTouch n x A I).2 ∧ (tTouch n x A I).1.length + (tTouch n x A I).2.length ≤ A.length + I.length + 1 := by
  obtain ⟨ha, hi, hd⟩ := h.parts
  unfold rPut tTouch
  by_cases hx : 0 ≤ x ∧ x < n
  · rw [if_neg (by omega), without_erase x ha, without_erase x hi]
    by_cases hm : x ∈ A ∨ x ∈ I
    · have hp := (erase_both h.nodup hm).length_eq
      simp only [List.length_cons, List.length_append] at hp
      rw [if_neg (fun e => by have := e.2; omega), if_pos rfl, if_neg (by decide), if_pos ⟨hx, hm⟩]
      have := Inv.of_even (n := n) (A := A.erase x ++ [x]) (I := I.erase x) (by
        have hq := erase_both h.nodup hm
        have hnd : ((x : Int) :: (A.erase x ++ I.erase x)).Nodup := hq.nodup_iff.2 h.nodup
        refine List.Perm.nodup_iff ?_ |>.2 hnd
        rw [List.append_assoc]
        exact List.perm_middle) (by
        intro y hy
        rw [List.mem_append, List.mem_singleton] at hy
        rcases hy with (hy | hy) | hy
        · exact h.mem y (.inl (List.mem_of_mem_erase hy))
        · subst hy; exact hx
        · exact h.mem y (.inr (List.mem_of_mem_erase hy)))
      refine ⟨rfl, this.1, ?_⟩
      rw [this.2]
      simp only [List.length_append, List.length_cons, List.length_nil]; omega
    · have e1 : A.erase x = A := List.erase_of_not_mem (fun e => hm (.inl e))
      have e2 : I.erase x = I := List.erase_of_not_mem (fun e => hm (.inr e))
      rw [e1, e2, if_pos ⟨rfl, rfl⟩, if_neg (fun e => hm e.2)]
      exact ⟨rfl, h, Nat.le_succ _⟩
  · rw [if_pos (by omega), if_neg (fun e => hx e.1)]
    exact ⟨rfl, h, Nat.le_succ _⟩
theorem Inv.remove {n : Int} {A I : List Int} (h : Inv n A I) (x : Int) :
    rPut 2 n x A I = tRemove x A I ∧ Inv n (tRemove x A I).1 (tRemove x A I).2 ∧ (tRemove x A I).1.length + (tRemove x A I).2.length ≤ A.length + I.length + 1 := by
  obtain ⟨ha, hi, hd⟩ := h.parts
  unfold rPut tRemove
  have := Inv.of_even (n := n) (A := A.erase x) (I := I.erase x) (by
    rw [List.nodup_append]
    refine ⟨ha.erase x, hi.erase x, fun y hy z hz e => ?_⟩
    subst e
    exact hd y (List.mem_of_mem_erase hy) (List.mem_of_mem_erase hz)) (by
    intro y hy
    rcases hy with hy | hy
    · exact h.mem y (.inl (List.mem_of_mem_erase hy))
    · exact h.mem y (.inr (List.mem_of_mem_erase hy)))
  have h1 := erase_le A x
  have h2 := erase_le I x
  refine ⟨?_, this.1, by rw [this.2]; omega⟩
  by_cases hx : 0 ≤ x ∧ x < n
  · rw [if_neg (by omega), if_neg (fun e => absurd e.1 (by decide)), if_neg (by decide), if_neg (by decide), without_erase x ha, without_erase x hi]
  · have e1 : A.erase x = A := List.erase_of_not_mem (fun e => hx (h.mem x (.inl e)))
    have e2 : I.erase x = I := List.erase_of_not_mem (fun e => hx (h.mem x (.inr e)))
    rw [if_pos (by omega), e1, e2, even_id h.half]
end Go.Proofs.Ytghkkhafnkkomaa
