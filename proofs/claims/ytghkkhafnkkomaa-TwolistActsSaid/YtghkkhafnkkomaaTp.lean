/- Two lists in plain Lean: what touching keeps; whom a victim spares. -/
import Derived.Test.YtghkkhafnkkomaaAw22
namespace Go.Proofs.Ytghkkhafnkkomaa
open Go.RowKit
open Go.Proofs

/-- All places stand in just one of the lists; at most half are active. -/
def Good (K : Nat) (A I : List Int) : Prop := (A ++ I).Perm (iota K) ∧ 2 * A.length ≤ A.length + I.length + 1

theorem iota_nodup (K : Nat) : (iota K).Nodup := by
  unfold iota List.Nodup
  rw [List.pairwise_map]
  exact List.Pairwise.imp (fun h => by omega) List.nodup_range
theorem even_perm : ∀ A I, ((even A I).1 ++ (even A I).2).Perm (A ++ I)
  | [], I => by rw [even]
  | a :: A, I => by
    rw [even]
    split
    · refine (even_perm A (I ++ [a])).trans ?_
      rw [← List.append_assoc]
      exact List.perm_append_comm.trans (by simp)
    · exact List.Perm.refl _
theorem even_half : ∀ A I, 2 * (even A I).1.length ≤ (even A I).1.length + (even A I).2.length + 1
  | [], I => by rw [even]; simp
  | a :: A, I => by
    rw [even]
    split
    · exact even_half A (I ++ [a])
    · simp only [List.length_cons]; omega
theorem Good.nodup {K : Nat} {A I : List Int} (h : Good K A I) : (A ++ I).Nodup := h.1.nodup_iff.2 (iota_nodup K)
theorem Good.mem {K : Nat} {A I : List Int} (h : Good K A I) (x : Int) : (x ∈ A ∨ x ∈ I) ↔ 0 ≤ x ∧ x < K := by
  rw [← List.mem_append, h.1.mem_iff, iota_mem]
theorem Good.length {K : Nat} {A I : List Int} (h : Good K A I) : A.length + I.length = K := by
  have := h.1.length_eq
  rw [List.length_append, iota_length] at this
  exact this
theorem good_iota (K : Nat) : Good K [] (iota K) := ⟨List.Perm.refl _, by simp⟩
theorem erase_both {A I : List Int} {x : Int} (hn : (A ++ I).Nodup) (hm : x ∈ A ∨ x ∈ I) : (x :: (A.erase x ++ I.erase x)).Perm (A ++ I) := by
  rw [List.nodup_append] at hn
  obtain ⟨_, _, hd⟩ := hn
  rcases hm with h | h
  · have h2 : x ∉ I := fun e => hd x h x e rfl
    rw [List.erase_of_not_mem h2]
    exact (List.perm_cons_erase h).symm.append_right I
  · have h2 : x ∉ A := fun e => hd x e x h rfl
    rw [List.erase_of_not_mem h2]
    exact (List.perm_middle.symm).trans ((List.perm_cons_erase h).symm.append_left A)
theorem Good.touch {K : Nat} {A I : List Int} (h : Good K A I) (x : Int) : Good K (tTouch K x A I).1 (tTouch K x A I).2 := by
  unfold tTouch
  split
  · rename_i hc
    refine ⟨((even_perm _ _).trans ?_).trans h.1, even_half _ _⟩
    refine List.Perm.trans ?_ (erase_both h.nodup hc.2)
    rw [List.append_assoc]
    exact List.perm_middle
  · exact h
/-- Whom a victim spares. -/
theorem victim_spares {K : Nat} {A I held : List Int} (h : Good K A I) (hv : victim held A I ∈ A) (y : Int) (hy : y ∈ I) : y ∈ held := by
  apply Classical.byContradiction
  intro hn
  have hf : free held y = true := by simp [free, hn]
  unfold victim at hv
  rw [List.find?_append] at hv
  cases hi : I.find? (free held) with
  | none =>
    rw [List.find?_eq_none] at hi
    exact hi y hy hf
  | some z =>
    rw [hi] at hv
    have hz := List.mem_of_find?_eq_some hi
    have := h.nodup
    rw [List.nodup_append] at this
    exact this.2.2 z hv z hz rfl
end Go.Proofs.Ytghkkhafnkkomaa
