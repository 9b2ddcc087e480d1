/- The ring in plain Lean: what an append leaves there, what is joined of it. -/
import Derived.Test.YtgpnmmgoachajaaK10
namespace Go.Proofs.Ytgpnmmgoachajaa
open Go.RowKit
open Go.Proofs

theorem lastAt_cut (q : List (Nat × List UInt8)) (at_ : Nat) (l : List UInt8) (i : Nat) : ∀ k, i < k → lastAt (q ++ cutSec at_ l k) (at_ + i) = some ((l.drop (128 * i)).take 128)
  | 0, h => by omega
  | k + 1, h => by
    rw [cutSec_succ, ← List.append_assoc, lastAt_snoc]
    by_cases e : i = k
    · subst e
      rw [if_pos rfl]
    · rw [if_neg (by show at_ + k ≠ at_ + i; omega)]
      exact lastAt_cut q at_ l i k (by omega)
theorem lastAt_cut_other (q : List (Nat × List UInt8)) (at_ : Nat) (l : List UInt8) (b : Nat) : ∀ k, (b < at_ ∨ at_ + k ≤ b) → lastAt (q ++ cutSec at_ l k) b = lastAt q b
  | 0, _ => by simp [cutSec]
  | k + 1, h => by
    rw [cutSec_succ, ← List.append_assoc, lastAt_snoc, if_neg (by show at_ + k ≠ b; omega)]
    exact lastAt_cut_other q at_ l b k (by omega)
theorem see_write (s : Dk) (at_ : Nat) (l : List UInt8) (i : Nat) (h : i < l.length / 128) : seeAt (dkWrite s at_ l) (at_ + i) = (l.drop (128 * i)).take 128 := by
  unfold seeAt
  show ((lastAt (s.queue ++ cutSec at_ l (l.length / 128)) (at_ + i)).getD _) = _
  rw [lastAt_cut _ _ _ _ _ h]
  rfl
theorem see_write_other (s : Dk) (at_ : Nat) (l : List UInt8) (b : Nat) (h : b < at_ ∨ at_ + l.length / 128 ≤ b) : seeAt (dkWrite s at_ l) b = seeAt s b := by
  unfold seeAt
  show ((lastAt (s.queue ++ cutSec at_ l (l.length / 128)) b).getD (s.safe.getD b [])) = _
  rw [lastAt_cut_other _ _ _ _ _ h]
theorem last_from (a : Nat) : ∀ (q : List (Nat × List UInt8)) (r : Option (List UInt8)), q.foldl (fun r p => if p.1 = a then some p.2 else r) r = (lastAt q a).or r
  | [], r => by simp [lastAt]
  | p :: q, r => by
    have h1 := last_from a q (if p.1 = a then some p.2 else r)
    have h2 := last_from a q (if p.1 = a then some p.2 else none)
    have h3 : lastAt (p :: q) a = (lastAt q a).or (if p.1 = a then some p.2 else none) := h2
    rw [List.foldl_cons, h1, h3]
    split <;> cases lastAt q a <;> simp
theorem putAll_at (a : Nat) (q : List (Nat × List UInt8)) : ∀ (sf : List (List UInt8)), (∀ p ∈ q, p.1 < sf.length) → (putAll sf q).getD a [] = (lastAt q a).getD (sf.getD a []) := by
  induction q with
  | nil => intro sf _; rfl
  | cons p q ih =>
    intro sf h
    have hp := h p (by simp)
    have e : lastAt (p :: q) a = (lastAt q a).or (if p.1 = a then some p.2 else none) := last_from a q _
    rw [putAll_cons, ih _ (fun x hx => by rw [List.length_set]; exact h x (by simp [hx])), e]
    cases lastAt q a with
    | some y => rfl
    | none =>
      by_cases e : p.1 = a
      · rw [if_pos e, ← e, List.getD_eq_getElem?_getD, List.getElem?_set_self hp]
        rfl
      · rw [if_neg e, List.getD_eq_getElem?_getD, List.getElem?_set_ne e, ← List.getD_eq_getElem?_getD]
        rfl
theorem see_flush {s : Dk} (h : DkOk s) (a : Nat) : seeAt (dkFlush s) a = seeAt s a := by
  unfold seeAt
  show ((lastAt [] a).getD ((putAll s.safe s.queue).getD a [])) = _
  rw [lastAt_nil, Option.getD_none, putAll_at a s.queue s.safe (fun p hp => (h.queue p hp).1)]

/-- The sector at an index, counted from a place on, around. -/
def rsec (s : Dk) (fr k st i : Nat) : List UInt8 := seeAt s (fr + (st + i) % k)
/-- All of the ring. -/
def rall (s : Dk) (fr k st n : Nat) : List UInt8 := (List.range n).flatMap (rsec s fr k st)
theorem rall_succ (s : Dk) (fr k st n : Nat) : rall s fr k st (n + 1) = rall s fr k st n ++ rsec s fr k st n := by simp [rall, List.range_succ]
theorem rall_add (s : Dk) (fr k st a : Nat) : ∀ b, rall s fr k st (a + b) = rall s fr k st a ++ rall s fr k (st + a) b
  | 0 => by simp [rall]
  | b + 1 => by
    rw [← Nat.add_assoc, rall_succ, rall_add s fr k st a b, rall_succ, List.append_assoc]
    congr 2
    unfold rsec
    rw [Nat.add_assoc]
theorem rall_mod (s : Dk) (fr k st n : Nat) : rall s fr k (st % k) n = rall s fr k st n := by
  unfold rall
  congr 1
  funext i
  unfold rsec
  rw [Nat.mod_add_mod]
theorem secs_add (s : Dk) (at_ a : Nat) : ∀ b, dkSecs s at_ (a + b) = dkSecs s at_ a ++ dkSecs s (at_ + a) b
  | 0 => by simp [dkSecs]
  | b + 1 => by rw [← Nat.add_assoc, dkSecs_succ, secs_add s at_ a b, dkSecs_succ, List.append_assoc, Nat.add_assoc]
theorem rall_ahead (s : Dk) (fr k st : Nat) : ∀ n, st + n ≤ k → rall s fr k st n = dkSecs s (fr + st) n
  | 0, _ => rfl
  | n + 1, h => by
    rw [rall_succ, dkSecs_succ, rall_ahead s fr k st n (by omega)]
    unfold rsec
    rw [Nat.mod_eq_of_lt (by omega), Nat.add_assoc]
/-- What Open reads, turned. -/
theorem open_left {s : Dk} (h : DkOk s) (fr k st : Nat) (hst : st < k) (hf : fr + k ≤ s.safe.length) : (dkSecs s fr k).drop (st * 128) ++ (dkSecs s fr k).take (st * 128) = rall s fr k st k := by
  obtain ⟨r, hr⟩ : ∃ r, k = st + r := ⟨k - st, by omega⟩
  have e1 : dkSecs s fr k = dkSecs s fr st ++ dkSecs s (fr + st) r := by rw [hr, secs_add]
  have l1 : (dkSecs s fr st).length = st * 128 := by rw [length_dkSecs h fr st (by omega), Nat.mul_comm]
  rw [e1, List.drop_append_of_le_length (by omega), List.drop_of_length_le (by omega), List.nil_append, List.take_append_of_le_length (by omega), List.take_of_length_le (by omega)]
  have e2 : rall s fr k st k = rall s fr k st r ++ rall s fr k (st + r) st := by
    conv => lhs; rw [show k = r + st by omega]
    rw [show rall s fr (r + st) st (r + st) = rall s fr k st (r + st) by rw [show r + st = k by omega]]
    exact rall_add s fr k st r st
  rw [e2, rall_ahead s fr k st r (by omega), show st + r = k by omega, ← rall_mod, Nat.mod_self, rall_ahead s fr k 0 st (by omega)]
  rfl
theorem length_rall {s : Dk} (h : DkOk s) (fr k st : Nat) (hk : 0 < k) (hf : fr + k ≤ s.safe.length) : ∀ n, (rall s fr k st n).length = 128 * n
  | 0 => rfl
  | n + 1 => by
    rw [rall_succ, List.length_append, length_rall h fr k st hk hf n, rsec, length_seeAt h _ (by have := Nat.mod_lt (st + n) hk; omega)]
    omega
/-- What the ring's write leaves. -/
theorem see_rg {s : Dk} (hc : s.calls = -1) (fr k pl : Nat) (l : List UInt8) (hpl : pl < k) (hl : l.length % 128 = 0) (hlk : l.length ≤ k * 128) (i : Nat) (hi : i < k) :
    seeAt (rgWrite s fr k pl l).1 (fr + (pl + i) % k) = if i < l.length / 128 then (l.drop (128 * i)).take 128 else seeAt s (fr + (pl + i) % k) := by
  have hc0 : s.calls ≠ 0 := by rw [hc]; decide
  have hm : (pl + i) % k = if pl + i < k then pl + i else pl + i - k := by
    split
    · exact Nat.mod_eq_of_lt (by assumption)
    · rw [Nat.mod_eq_sub_mod (by omega), Nat.mod_eq_of_lt (by omega)]
  have hcw : ∀ a l, (dkWrite s a l).calls ≠ 0 := fun a l => by show callTo s.calls ≠ 0; rw [hc]; decide
  unfold rgWrite
  by_cases hA : l.length ≤ (k - pl) * 128
  · rw [if_pos hA]
    simp only [if_neg hc0]
    by_cases hx : i < l.length / 128
    · rw [if_pos hx, hm, if_pos (by omega), ← Nat.add_assoc]
      exact see_write s (fr + pl) l i hx
    · rw [if_neg hx]
      refine see_write_other s (fr + pl) l _ ?_
      rw [hm]
      split <;> omega
  · rw [if_neg hA, if_neg hc0]
    simp only [if_neg (hcw _ _)]
    have l1 : (l.take ((k - pl) * 128)).length = (k - pl) * 128 := by rw [List.length_take]; omega
    have l2 : (l.drop ((k - pl) * 128)).length = l.length - (k - pl) * 128 := List.length_drop
    by_cases hx : i < l.length / 128
    · rw [if_pos hx]
      by_cases hy : pl + i < k
      · rw [hm, if_pos hy, see_write_other _ _ _ _ (by rw [l2]; omega), ← Nat.add_assoc, see_write _ _ _ _ (by rw [l1]; omega), List.drop_take, List.take_take, Nat.min_eq_left (by omega)]
      · rw [hm, if_neg hy, see_write _ _ _ _ (by rw [l2]; omega), List.drop_drop]
        congr 2
        omega
    · rw [if_neg hx, see_write_other _ _ _ _ (by rw [l2, hm]; split <;> omega), see_write_other _ _ _ _ (by rw [l1, hm]; split <;> omega)]

/-- What an append of sectors leaves, with the power on. -/
theorem see_japp {s : Dk} (hc : s.calls = -1) (ok : DkOk s) (fr k pl q : Nat) (l : List UInt8) (hpl : pl < k) (hl : l.length = 128 * (q + 1)) (hlk : q + 1 ≤ k) (hf : fr + k ≤ s.safe.length) (i : Nat) (hi : i < k) :
    seeAt (jApp s fr k pl l).1 (fr + (pl + i) % k) = if i < q + 1 then (l.drop (128 * i)).take 128 else seeAt s (fr + (pl + i) % k) := by
  rw [japp_on s hc]
  dsimp only
  have l1 : (l.take (l.length - 128)).length = 128 * q := by rw [List.length_take]; omega
  have l2 : (l.drop (l.length - 128)).length = 128 := by rw [List.length_drop]; omega
  have okw : ∀ (t : Dk), DkOk t → t.calls = -1 → t.safe.length = s.safe.length → ∀ pl l, pl < k → l.length % 128 = 0 → l.length ≤ k * 128 → DkOk (rgWrite t fr k pl l).1 ∧ (rgWrite t fr k pl l).1.safe.length = s.safe.length := fun t hok ht hs pl l hpl h1 h2 => by
    refine ⟨?_, by rw [(rg_inv t fr k pl l).1, hs]⟩
    have hc0 : t.calls ≠ 0 := by rw [ht]; decide
    have hcw : ∀ a l, (dkWrite t a l).calls ≠ 0 := fun a l => by show callTo t.calls ≠ 0; rw [ht]; decide
    unfold rgWrite
    by_cases hA : l.length ≤ (k - pl) * 128
    · rw [if_pos hA]
      simp only [if_neg hc0]
      exact dkOk_write hok _ _ h1 (by omega)
    · rw [if_neg hA, if_neg hc0]
      simp only [if_neg (hcw _ _)]
      have l1 : (l.take ((k - pl) * 128)).length = (k - pl) * 128 := by rw [List.length_take]; omega
      have l2 : (l.drop ((k - pl) * 128)).length = l.length - (k - pl) * 128 := List.length_drop
      refine dkOk_write (dkOk_write hok _ _ (by omega) (by omega)) _ _ (by omega) ?_
      show fr + _ ≤ t.safe.length
      omega
  obtain ⟨o1, n1⟩ := okw s ok hc rfl pl (l.take (l.length - 128)) hpl (by omega) (by omega)
  have c1 := (rg_on s hc fr k pl (l.take (l.length - 128))).2
  have v1 := see_rg hc fr k pl (l.take (l.length - 128)) hpl (by omega) (by omega)
  generalize rgWrite s fr k pl (l.take (l.length - 128)) = R1 at *
  have o2 := dkOk_flush o1
  have n2 : (dkFlush R1.1).safe.length = s.safe.length := by rw [← n1]; exact length_putAll _ _
  have c2 := flush_on _ c1
  have hq : (l.length - 128) / 128 = q := by omega
  have hpq : (pl + (l.length - 128) / 128) % k < k := Nat.mod_lt _ (by omega)
  obtain ⟨o3, n3⟩ := okw (dkFlush R1.1) o2 c2 n2 ((pl + (l.length - 128) / 128) % k) (l.drop (l.length - 128)) hpq (by omega) (by omega)
  have v2 := see_rg c2 fr k ((pl + (l.length - 128) / 128) % k) (l.drop (l.length - 128)) hpq (by omega) (by omega)
  rw [see_flush o3]
  by_cases h1 : i < q
  · have e : (pl + i) % k = (((pl + (l.length - 128) / 128) % k) + (k - q + i)) % k := by
      rw [hq, Nat.mod_add_mod, show pl + q + (k - q + i) = pl + i + k by omega, Nat.add_mod_right]
    rw [e, v2 _ (by omega), if_neg (by omega), ← e, see_flush o1, v1 i hi, if_pos (by omega), if_pos (by omega), List.drop_take, List.take_take, Nat.min_eq_left (by omega)]
  · by_cases h2 : i = q
    · have e : (pl + i) % k = (((pl + (l.length - 128) / 128) % k) + 0) % k := by rw [Nat.add_zero, Nat.mod_mod, hq, h2]
      have e9 : (l.drop (l.length - 128)).drop (128 * 0) = l.drop (128 * i) := by
        rw [Nat.mul_zero, List.drop_zero, show l.length - 128 = 128 * i by omega]
      rw [e, v2 0 (by omega), if_pos (by omega), if_pos (by omega), e9]
    · have e : (pl + i) % k = (((pl + (l.length - 128) / 128) % k) + (i - q)) % k := by
        rw [hq, Nat.mod_add_mod, show pl + q + (i - q) = pl + i by omega]
      have h3 : ¬ i < q + 1 := by omega
      have h4 : ¬ i - q < (l.drop (l.length - 128)).length / 128 := by rw [l2]; omega
      have h5 : ¬ i < (l.take (l.length - 128)).length / 128 := by rw [l1]; omega
      rw [e, v2 _ (by omega), if_neg h4, ← e, see_flush o1, v1 i hi, if_neg h5, if_neg h3]
theorem fm_congr {f g : Nat → List UInt8} {l : List Nat} (h : ∀ x ∈ l, f x = g x) : l.flatMap f = l.flatMap g := by rw [List.flatMap_def, List.flatMap_def, List.map_congr_left h]
theorem secs_of (l : List UInt8) : ∀ n, (List.range n).flatMap (fun i => (l.drop (128 * i)).take 128) = l.take (128 * n)
  | 0 => rfl
  | n + 1 => by
    rw [List.range_succ, List.flatMap_append, secs_of l n, List.flatMap_singleton, Nat.mul_add, Nat.mul_one, List.take_add]
/-- The ring behind an append: what was there, what came, and what is left of the rest. -/
theorem rall_japp {s : Dk} (hc : s.calls = -1) (ok : DkOk s) (fr k st used q : Nat) (l : List UInt8) (hk : 0 < k) (hl : l.length = 128 * (q + 1)) (hlk : used + (q + 1) ≤ k) (hf : fr + k ≤ s.safe.length) :
    rall (jApp s fr k ((st + used) % k) l).1 fr k st used = rall s fr k st used ∧ rall (jApp s fr k ((st + used) % k) l).1 fr k (st + used) (q + 1) = l ∧ (∀ i, i < k → q + 1 ≤ i → i < k → seeAt (jApp s fr k ((st + used) % k) l).1 (fr + (st + used + i) % k) = seeAt s (fr + (st + used + i) % k)) := by
  have v := see_japp hc ok fr k ((st + used) % k) q l (Nat.mod_lt _ hk) hl (by omega) hf
  have e : ∀ i, ((st + used) % k + i) % k = (st + used + i) % k := fun i => Nat.mod_add_mod _ _ _
  simp only [e] at v
  refine ⟨?_, ?_, ?_⟩
  · unfold rall
    refine fm_congr fun i hi => ?_
    rw [List.mem_range] at hi
    unfold rsec
    have e2 : (st + i) % k = (st + used + (k - used + i)) % k := by rw [show st + used + (k - used + i) = st + i + k by omega, Nat.add_mod_right]
    rw [e2, v _ (by omega), if_neg (by omega)]
  · have : rall (jApp s fr k ((st + used) % k) l).1 fr k (st + used) (q + 1) = (List.range (q + 1)).flatMap (fun i => (l.drop (128 * i)).take 128) := by
      unfold rall
      refine fm_congr fun i hi => ?_
      rw [List.mem_range] at hi
      unfold rsec
      rw [v i (by omega), if_pos hi]
    rw [this, secs_of, List.take_of_length_le (by omega)]
  · intro i hi h1 _
    rw [v i hi, if_neg (by omega)]
end Go.Proofs.Ytgpnmmgoachajaa
