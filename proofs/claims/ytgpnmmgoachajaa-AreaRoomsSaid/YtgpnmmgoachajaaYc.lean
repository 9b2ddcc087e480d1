/- Areas in plain Lean: what was written is read again, behind a flush, behind a crash. -/
import Derived.Test.YtgpnmmgoachajaaYb
import Derived.Test.YtgpnmmgoachajaaEn
namespace Go.Proofs.Ytgpnmmgoachajaa
open Go.RowKit
open Go.Proofs

theorem lastAt_cut (q : List (Nat × List UInt8)) (at_ : Nat) (l : List UInt8) (i : Nat) : ∀ k, i < k → lastAt (q ++ cutSec at_ l k) (at_ + i) = some ((l.drop (128 * i)).take 128)
  | 0, h => by omega
  | k + 1, h => by
    rw [cutSec_succ, ← List.append_assoc, lastAt_snoc]
    by_cases e : i = k
    · subst e
      rw [if_pos rfl]
    · rw [if_neg (by show at_ + k ≠ at_ + i; omega)]
      exact lastAt_cut q at_ l i k (by omega)
theorem lastAt_cut_other (q : List (Nat × List UInt8)) (at_ : Nat) (l : List UInt8) (b : Nat) : ∀ k, (b < at_ ∨ at_ + k ≤ b) → lastAt (q ++ cutSec at_ l k) b = lastAt q b
  | 0, _ => by simp [cutSec]
  | k + 1, h => by
    rw [cutSec_succ, ← List.append_assoc, lastAt_snoc, if_neg (by show at_ + k ≠ b; omega)]
    exact lastAt_cut_other q at_ l b k (by omega)
theorem see_write (s : Dk) (at_ : Nat) (l : List UInt8) (i : Nat) (h : i < l.length / 128) : seeAt (dkWrite s at_ l) (at_ + i) = (l.drop (128 * i)).take 128 := by
  unfold seeAt
  show ((lastAt (s.queue ++ cutSec at_ l (l.length / 128)) (at_ + i)).getD _) = _
  rw [lastAt_cut _ _ _ _ _ h]
  rfl
theorem see_write_other (s : Dk) (at_ : Nat) (l : List UInt8) (b : Nat) (h : b < at_ ∨ at_ + l.length / 128 ≤ b) : seeAt (dkWrite s at_ l) b = seeAt s b := by
  unfold seeAt
  show ((lastAt (s.queue ++ cutSec at_ l (l.length / 128)) b).getD (s.safe.getD b [])) = _
  rw [lastAt_cut_other _ _ _ _ _ h]
theorem last_from (a : Nat) : ∀ (q : List (Nat × List UInt8)) (r : Option (List UInt8)), q.foldl (fun r p => if p.1 = a then some p.2 else r) r = (lastAt q a).or r
  | [], r => by simp [lastAt]
  | p :: q, r => by
    have h1 := last_from a q (if p.1 = a then some p.2 else r)
    have h2 := last_from a q (if p.1 = a then some p.2 else none)
    have h3 : lastAt (p :: q) a = (lastAt q a).or (if p.1 = a then some p.2 else none) := h2
    rw [List.foldl_cons, h1, h3]
    split <;> cases lastAt q a <;> simp
theorem putAll_at (a : Nat) (q : List (Nat × List UInt8)) : ∀ (sf : List (List UInt8)), (∀ p ∈ q, p.1 < sf.length) → (putAll sf q).getD a [] = (lastAt q a).getD (sf.getD a []) := by
  induction q with
  | nil => intro sf _; rfl
  | cons p q ih =>
    intro sf h
    have hp := h p (by simp)
    have e : lastAt (p :: q) a = (lastAt q a).or (if p.1 = a then some p.2 else none) := last_from a q _
    rw [putAll_cons, ih _ (fun x hx => by rw [List.length_set]; exact h x (by simp [hx])), e]
    cases lastAt q a with
    | some y => rfl
    | none =>
      by_cases e : p.1 = a
      · rw [if_pos e, ← e, List.getD_eq_getElem?_getD, List.getElem?_set_self hp]
        rfl
      · rw [if_neg e, List.getD_eq_getElem?_getD, List.getElem?_set_ne e, ← List.getD_eq_getElem?_getD]
        rfl
theorem see_flush {s : Dk} (h : DkOk s) (a : Nat) : seeAt (dkFlush s) a = seeAt s a := by
  unfold seeAt
  show ((lastAt [] a).getD ((putAll s.safe s.queue).getD a [])) = _
  rw [lastAt_nil, Option.getD_none, putAll_at a s.queue s.safe (fun p hp => (h.queue p hp).1)]
theorem see_crash (s : Dk) (keep : List Int) (torn cut : Int) (a : Nat) (h : ∀ p ∈ s.queue, p.1 ≠ a) : seeAt (dkCrash s keep torn cut) a = seeAt s a := by
  unfold seeAt
  show ((lastAt [] a).getD ((crashTo keep torn cut 0 s.safe s.queue).1.getD a [])) = _
  rw [lastAt_nil, Option.getD_none, List.getD_eq_getElem?_getD, crashTo_other _ _ _ _ _ _ _ h, lastAt_none a s.queue h, Option.getD_none, List.getD_eq_getElem?_getD]
theorem secs_write (s : Dk) (at_ : Nat) (l : List UInt8) : ∀ k, k ≤ l.length / 128 → dkSecs (dkWrite s at_ l) at_ k = l.take (128 * k)
  | 0, _ => rfl
  | k + 1, h => by
    rw [dkSecs_succ, secs_write s at_ l k (by omega), see_write _ _ _ _ (by omega), Nat.mul_add, Nat.mul_one, List.take_add]
theorem secs_congr (s t : Dk) (at_ : Nat) : ∀ k, (∀ i, i < k → seeAt s (at_ + i) = seeAt t (at_ + i)) → dkSecs s at_ k = dkSecs t at_ k
  | 0, _ => rfl
  | k + 1, h => by
    rw [dkSecs_succ, dkSecs_succ, secs_congr s t at_ k (fun i hi => h i (by omega)), h k (by omega)]
theorem pad_take (l : List UInt8) : (padTo l).take l.length = l := by
  rw [padTo, List.take_append_of_le_length (Nat.le_refl _), List.take_length]
theorem pad_whole (l : List UInt8) (k : Nat) (h : l.length = k * 128) : padTo l = l := by
  unfold padTo
  rw [h, show (k * 128 + 127) / 128 * 128 - k * 128 = 0 by omega]
  simp
/-- What was written into an area is read again. -/
theorem got_write (s : Dk) (at_ : Nat) (l : List UInt8) : yGot (yWr s at_ l) at_ l.length = l := by
  by_cases h : l.length = 0
  · have : l = [] := List.eq_nil_of_length_eq_zero h
    subst this
    rfl
  · unfold yGot yWr
    rw [if_neg h, secs_write _ _ _ _ (by rw [length_padTo]; omega), List.take_take, Nat.min_eq_left (by omega), pad_take]
theorem got_congr (s t : Dk) (at_ z : Nat) (h : ∀ i, i < (z + 127) / 128 → seeAt s (at_ + i) = seeAt t (at_ + i)) : yGot s at_ z = yGot t at_ z := by
  unfold yGot
  rw [secs_congr s t at_ _ h]
theorem ywr_queue {s : Dk} {at_ : Nat} {l : List UInt8} : ∀ p ∈ (yWr s at_ l).queue, p ∈ s.queue ∨ (at_ ≤ p.1 ∧ p.1 < at_ + (l.length + 127) / 128) := by
  intro p hp
  unfold yWr at hp
  split at hp
  · exact .inl hp
  · rcases List.mem_append.1 hp with h | h
    · exact .inl h
    · simp only [cutSec, List.mem_map, List.mem_range, length_padTo] at h
      obtain ⟨i, hi, rfl⟩ := h
      refine .inr ⟨?_, ?_⟩
      · show at_ ≤ at_ + i; omega
      · show at_ + i < _; omega
theorem ywr_other (s : Dk) (at_ : Nat) (l : List UInt8) (b : Nat) (h : b < at_ ∨ at_ + (l.length + 127) / 128 ≤ b) : seeAt (yWr s at_ l) b = seeAt s b := by
  unfold yWr
  split
  · rfl
  · refine see_write_other s at_ _ b ?_
    rw [length_padTo]
    omega
theorem ywr_safe (s : Dk) (at_ : Nat) (l : List UInt8) : (yWr s at_ l).safe = s.safe := by unfold yWr; split <;> rfl
theorem ywr_calls (s : Dk) (at_ : Nat) (l : List UInt8) (h : s.calls = -1) : (yWr s at_ l).calls = -1 := by
  unfold yWr
  split
  · exact h
  · show callTo s.calls = -1
    rw [h]; rfl
theorem ywr_writes (s : Dk) (at_ : Nat) (l : List UInt8) : s.writes ≤ (yWr s at_ l).writes ∧ (yWr s at_ l).writes ≤ s.writes + (((l.length + 127) / 128 : Nat) : Int) := by
  unfold yWr
  split
  · exact ⟨Int.le_refl _, by omega⟩
  · show s.writes ≤ s.writes + (((padTo l).length / 128 : Nat) : Int) ∧ s.writes + (((padTo l).length / 128 : Nat) : Int) ≤ _
    rw [length_padTo]
    omega
theorem ywr_len (s : Dk) (at_ : Nat) (l : List UInt8) : (yWr s at_ l).queue.length ≤ s.queue.length + (l.length + 127) / 128 := by
  unfold yWr
  split
  · omega
  · show (s.queue ++ cutSec at_ (padTo l) ((padTo l).length / 128)).length ≤ _
    rw [List.length_append, length_cutSec, length_padTo]
    omega
theorem ywr_ok {s : Dk} (h : DkOk s) (at_ : Nat) (l : List UInt8) (ha : at_ + (l.length + 127) / 128 ≤ s.safe.length) : DkOk (yWr s at_ l) := by
  unfold yWr
  split
  · exact h
  · exact dkOk_write h _ _ (by rw [length_padTo]; omega) (by rw [length_padTo]; omega)

/-- The example. -/
theorem ex_got : yGot (yWr (dkNew 4) 2 [97, 98, 99]) 2 3 = [97, 98, 99] := got_write _ _ [97, 98, 99]
theorem ex_zero : yGot (yWr (dkNew 4) 2 [97, 98, 99]) 0 3 = [0, 0, 0] := by
  rw [got_congr _ (dkNew 4) 0 3 (fun i hi => ywr_other _ _ _ _ (.inl (by omega)))]
  rfl
theorem ex_sums : Mb.crcSum [0, 0, 0] ≠ Mb.crcSum [97, 98, 99] := by decide +kernel
end Go.Proofs.Ytgpnmmgoachajaa
