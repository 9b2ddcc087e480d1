/- Appends that fail on the way: what a crash leaves of them. -/
import Derived.Test.YtgpnmmgoachajaaJy
namespace Go.Proofs.Ytgpnmmgoachajaa
open Go.RowKit
open Go.Proofs

/-- The same sectors, safe and waiting. -/
def SameD (s t : Dk) : Prop := s.safe = t.safe ∧ s.queue = t.queue
section
variable {s t : Dk} {fr k pl : Nat} {l : List UInt8}
theorem SameD.see (h : SameD s t) (a : Nat) : seeAt s a = seeAt t a := by unfold seeAt; rw [h.1, h.2]
theorem SameD.flush (h : SameD s t) : SameD (dkFlush s) (dkFlush t) := ⟨by show putAll s.safe s.queue = putAll t.safe t.queue; rw [h.1, h.2], rfl⟩
theorem SameD.write (h : SameD s t) (a : Nat) (l : List UInt8) : SameD (dkWrite s a l) (dkWrite t a l) := ⟨h.1, by show s.queue ++ _ = t.queue ++ _; rw [h.2]⟩
theorem dkE_zero (h : dkE s = 0) : s.calls ≠ 0 := fun z => by unfold dkE at h; rw [if_pos z] at h; cases h
theorem rg_same (h : SameD s t) (h1 : (rgWrite s fr k pl l).2 = 0) (h2 : (rgWrite t fr k pl l).2 = 0) : SameD (rgWrite s fr k pl l).1 (rgWrite t fr k pl l).1 := by
  unfold rgWrite at *
  by_cases hA : l.length ≤ (k - pl) * 128
  · rw [if_pos hA] at h1 h2
    rw [if_pos hA, if_pos hA]
    dsimp only at *
    rw [if_neg (dkE_zero h1), if_neg (dkE_zero h2)]
    exact h.write _ _
  · rw [if_neg hA] at h1 h2
    rw [if_neg hA, if_neg hA]
    by_cases c1 : s.calls = 0
    · rw [if_pos c1] at h1; cases h1
    · by_cases c2 : t.calls = 0
      · rw [if_pos c2] at h2; cases h2
      · rw [if_neg c1] at h1
        rw [if_neg c2] at h2
        rw [if_neg c1, if_neg c2]
        dsimp only at *
        rw [if_neg (dkE_zero h1), if_neg (dkE_zero h2)]
        exact (h.write _ _).write _ _
theorem japp_same (h : SameD s t) (h1 : (jApp s fr k pl l).2 = 0) (h2 : t.calls = -1) : SameD (jApp s fr k pl l).1 (jApp t fr k pl l).1 := by
  have a1 := rg_on t h2 fr k pl (l.take (l.length - 128))
  have a2 := rg_on _ (flush_on _ a1.2) fr k ((pl + (l.length - 128) / 128) % k) (l.drop (l.length - 128))
  rw [japp_on t h2]
  unfold jApp at *
  by_cases c1 : (rgWrite s fr k pl (l.take (l.length - 128))).2 = 0
  · rw [if_neg (not_not_intro c1)] at h1 ⊢
    by_cases c2 : (rgWrite s fr k pl (l.take (l.length - 128))).1.calls = 0
    · rw [if_pos c2] at h1; cases h1
    · rw [if_neg c2] at h1 ⊢
      have b1 := (rg_same h c1 a1.1).flush
      by_cases c3 : (rgWrite (dkFlush (rgWrite s fr k pl (l.take (l.length - 128))).1) fr k ((pl + (l.length - 128) / 128) % k) (l.drop (l.length - 128))).2 = 0
      · rw [if_neg (not_not_intro c3)] at h1 ⊢
        dsimp only at h1 ⊢
        rw [if_neg (dkE_zero h1)]
        exact (rg_same b1 c3 a2.1).flush
      · rw [if_pos c3] at h1
        exact absurd h1 c3
  · rw [if_pos c1] at h1
    exact absurd h1 c1
/-- What waits of the ring's write: parts of it, each place once. -/
theorem rg_queue (hq : s.queue = []) (hpl : pl < k) (hl : l.length % 128 = 0) (hlk : l.length ≤ k * 128) : (rgWrite s fr k pl l).1.safe = s.safe ∧ ((rgWrite s fr k pl l).1.queue.map (·.1)).Nodup ∧ ∀ p ∈ (rgWrite s fr k pl l).1.queue, ∃ i, i < l.length / 128 ∧ p.1 = fr + (pl + i) % k ∧ p.2 = (l.drop (128 * i)).take 128 := by
  have nod : ∀ a n (l : List UInt8), ((cutSec a l n).map (·.1)).Nodup := fun a n l => by
    have : (cutSec a l n).map (·.1) = (List.range n).map (a + ·) := by simp [cutSec]
    rw [this]
    exact List.Pairwise.map _ (fun x y (z : x ≠ y) => by omega) List.nodup_range
  have mem : ∀ a n (l : List UInt8) p, p ∈ cutSec a l n → ∃ i, i < n ∧ p.1 = a + i ∧ p.2 = (l.drop (128 * i)).take 128 := fun a n l p hp => by
    simp only [cutSec, List.mem_map, List.mem_range] at hp
    obtain ⟨i, hi, rfl⟩ := hp
    exact ⟨i, hi, rfl, rfl⟩
  have wq : ∀ (u : Dk) a l, (dkWrite u a l).queue = u.queue ++ cutSec a l (l.length / 128) := fun _ _ _ => rfl
  unfold rgWrite
  by_cases hA : l.length ≤ (k - pl) * 128
  · rw [if_pos hA]
    dsimp only
    split
    · rw [hq]; exact ⟨rfl, List.nodup_nil, fun p hp => by cases hp⟩
    · rw [wq, hq, List.nil_append]
      refine ⟨rfl, nod _ _ _, fun p hp => ?_⟩
      obtain ⟨i, hi, e1, e2⟩ := mem _ _ _ p hp
      exact ⟨i, hi, by rw [e1, Nat.mod_eq_of_lt (by omega), Nat.add_assoc], e2⟩
  · rw [if_neg hA]
    have l1 : (l.take ((k - pl) * 128)).length = (k - pl) * 128 := by rw [List.length_take]; omega
    have l2 : (l.drop ((k - pl) * 128)).length = l.length - (k - pl) * 128 := List.length_drop
    have m1 : ∀ p, p ∈ cutSec (fr + pl) (l.take ((k - pl) * 128)) ((l.take ((k - pl) * 128)).length / 128) → ∃ i, i < l.length / 128 ∧ p.1 = fr + (pl + i) % k ∧ p.2 = (l.drop (128 * i)).take 128 := fun p hp => by
      obtain ⟨i, hi, e1, e2⟩ := mem _ _ _ p hp
      rw [l1] at hi
      refine ⟨i, by omega, by rw [e1, Nat.mod_eq_of_lt (by omega), Nat.add_assoc], ?_⟩
      rw [e2, List.drop_take, List.take_take, Nat.min_eq_left (by omega)]
    split
    · rw [hq]; exact ⟨rfl, List.nodup_nil, fun p hp => by cases hp⟩
    · dsimp only
      split
      · rw [wq, hq, List.nil_append]
        exact ⟨rfl, nod _ _ _, m1⟩
      · rw [wq, wq, hq, List.nil_append]
        refine ⟨rfl, ?_, fun p hp => ?_⟩
        · rw [List.map_append, List.nodup_append]
          refine ⟨nod _ _ _, nod _ _ _, fun a ha b hb => ?_⟩
          rw [List.mem_map] at ha hb
          obtain ⟨p, hp, rfl⟩ := ha
          obtain ⟨r, hr, rfl⟩ := hb
          obtain ⟨i, hi, e1, _⟩ := mem _ _ _ p hp
          obtain ⟨i2, hi2, e2, _⟩ := mem _ _ _ r hr
          rw [l2] at hi2
          omega
        · rcases List.mem_append.1 hp with hp | hp
          · exact m1 p hp
          · obtain ⟨i, hi, e1, e2⟩ := mem _ _ _ p hp
            rw [l2] at hi
            refine ⟨(k - pl) + i, by omega, ?_, ?_⟩
            · rw [e1, show pl + (k - pl + i) = i + k by omega, Nat.add_mod_right, Nat.mod_eq_of_lt (by omega)]
            · rw [e2, List.drop_drop]
              congr 2
              omega
theorem rg_ok (ok : DkOk s) (hpl : pl < k) (hl : l.length % 128 = 0) (hlk : l.length ≤ k * 128) (hf : fr + k ≤ s.safe.length) : DkOk (rgWrite s fr k pl l).1 := by
  unfold rgWrite
  by_cases hA : l.length ≤ (k - pl) * 128
  · rw [if_pos hA]
    dsimp only
    split
    · exact ok
    · exact dkOk_write ok _ _ hl (by omega)
  · rw [if_neg hA]
    have l1 : (l.take ((k - pl) * 128)).length = (k - pl) * 128 := by rw [List.length_take]; omega
    have l2 : (l.drop ((k - pl) * 128)).length = l.length - (k - pl) * 128 := List.length_drop
    have o1 := dkOk_write ok (fr + pl) (l.take ((k - pl) * 128)) (by omega) (by omega)
    split
    · exact ok
    · dsimp only
      split
      · exact o1
      · refine dkOk_write o1 _ _ (by omega) ?_
        show fr + _ ≤ s.safe.length
        omega
theorem crash_other (keep : List Int) (torn cut : Int) (a : Nat) : ∀ (q : List (Nat × List UInt8)) (i : Nat) (sf : List (List UInt8)), (∀ p ∈ q, p.1 ≠ a) → (crashTo keep torn cut i sf q).1.getD a [] = sf.getD a [] := by
  intro q
  induction q with
  | nil => intro i sf _; rfl
  | cons p q ih =>
    intro i sf h
    have hp := h p (by simp)
    have hq : ∀ x ∈ q, x.1 ≠ a := fun x hx => h x (by simp [hx])
    have set_ne : ∀ v, (sf.set p.1 v).getD a [] = sf.getD a [] := fun v => by rw [List.getD_eq_getElem?_getD, List.getElem?_set_ne hp, ← List.getD_eq_getElem?_getD]
    rw [crashTo]
    split
    · show (crashTo keep torn cut (i + 1) (sf.set p.1 p.2) q).1.getD a [] = _
      rw [ih _ _ hq, set_ne]
    · split
      · rw [ih _ _ hq, set_ne]
      · exact ih _ _ hq
theorem pos_inj {k pl i j : Nat} (hpl : pl < k) (hi : i < k) (hj : j < k) (h : (pl + i) % k = (pl + j) % k) : i = j := by
  have m : ∀ x, x < k → (pl + x) % k = if pl + x < k then pl + x else pl + x - k := fun x hx => by
    split
    · exact Nat.mod_eq_of_lt (by assumption)
    · rw [Nat.mod_eq_sub_mod (by omega), Nat.mod_eq_of_lt (by omega)]
  rw [m i hi, m j hj] at h
  split at h <;> split at h <;> omega
/-- What a crash leaves of the ring's write. -/
theorem rg_crash (hq : s.queue = []) (hpl : pl < k) (hl : l.length % 128 = 0) (hlk : l.length ≤ k * 128) (hf : fr + k ≤ s.safe.length) (keep : List Int) (torn cut : Int) (i : Nat) (hi : i < k) :
    (i < l.length / 128 → Tw (seeAt s (fr + (pl + i) % k)) ((l.drop (128 * i)).take 128) (seeAt (dkCrash (rgWrite s fr k pl l).1 keep torn cut) (fr + (pl + i) % k))) ∧
    (l.length / 128 ≤ i → seeAt (dkCrash (rgWrite s fr k pl l).1 keep torn cut) (fr + (pl + i) % k) = seeAt s (fr + (pl + i) % k)) := by
  obtain ⟨q1, q2, q3⟩ := rg_queue (fr := fr) hq hpl hl hlk
  have hm := Nat.mod_lt (pl + i) (show 0 < k by omega)
  rw [see_crash_eq, see_no_queue hq, ← q1]
  refine ⟨fun h => ?_, fun h => ?_⟩
  · refine crash_at keep torn cut _ _ _ 0 _ (by rw [q1]; omega) q2 fun p hp e => ?_
    obtain ⟨j, hj, e1, e2⟩ := q3 p hp
    have : j = i := pos_inj hpl (by omega) hi (by omega)
    rw [e2, this]
  · refine crash_other keep torn cut _ _ 0 _ fun p hp e => ?_
    obtain ⟨j, hj, e1, e2⟩ := q3 p hp
    have : j = i := pos_inj hpl (by omega) hi (by omega)
    omega
theorem rg_zero (hz : (rgWrite s fr k pl l).2 = 0) (hpl : pl < k) (hl : l.length % 128 = 0) (hlk : l.length ≤ k * 128) (i : Nat) (hi : i < k) : seeAt (rgWrite s fr k pl l).1 (fr + (pl + i) % k) = if i < l.length / 128 then (l.drop (128 * i)).take 128 else seeAt s (fr + (pl + i) % k) := by
  have h1 : SameD s { s with calls := -1 } := ⟨rfl, rfl⟩
  have h2 := rg_same (fr := fr) (k := k) (pl := pl) (l := l) h1 hz (rg_on _ rfl fr k pl l).1
  rw [h2.see, see_rg rfl fr k pl l hpl hl hlk i hi]
  rfl
set_option maxRecDepth 100000 in
/-- An append that failed on the way, behind a crash. -/
theorem app_crash {q : Nat} {B : List UInt8} (hq : s.queue = []) (ok : DkOk s) (hpl : pl < k) (hB : B.length = 128 * (q + 1)) (hqk : q + 1 ≤ k) (hf : fr + k ≤ s.safe.length) (hz : (jApp s fr k pl B).2 ≠ 0) (keep : List Int) (torn cut : Int) :
    (∀ i, i < k → q < i → seeAt (dkCrash (jApp s fr k pl B).1 keep torn cut) (fr + (pl + i) % k) = seeAt s (fr + (pl + i) % k)) ∧
    (∀ i, i < q → Tw (seeAt s (fr + (pl + i) % k)) ((B.drop (128 * i)).take 128) (seeAt (dkCrash (jApp s fr k pl B).1 keep torn cut) (fr + (pl + i) % k))) ∧
    Tw (seeAt s (fr + (pl + q) % k)) ((B.drop (128 * q)).take 128) (seeAt (dkCrash (jApp s fr k pl B).1 keep torn cut) (fr + (pl + q) % k)) ∧
    (seeAt (dkCrash (jApp s fr k pl B).1 keep torn cut) (fr + (pl + q) % k) = seeAt s (fr + (pl + q) % k) ∨ ∀ i, i < q → seeAt (dkCrash (jApp s fr k pl B).1 keep torn cut) (fr + (pl + i) % k) = (B.drop (128 * i)).take 128) ∧
    DkOk (jApp s fr k pl B).1 := by
  have l1 : (B.take (B.length - 128)).length = 128 * q := by rw [List.length_take]; omega
  have l2 : (B.drop (B.length - 128)).length = 128 := by rw [List.length_drop]; omega
  have d1 : (B.take (B.length - 128)).length / 128 = q := by rw [l1]; omega
  have d2 : (B.drop (B.length - 128)).length / 128 = 1 := by rw [l2]
  have tk : ∀ i, i < q → ((B.take (B.length - 128)).drop (128 * i)).take 128 = (B.drop (128 * i)).take 128 := fun i hi => by
    rw [List.drop_take, List.take_take, Nat.min_eq_left (by omega)]
  have c1 := fun i hi => rg_crash (fr := fr) hq hpl (by rw [l1]; omega) (by rw [l1]; omega) hf keep torn cut (l := B.take (B.length - 128)) i hi
  have z1 := fun hz i hi => rg_zero (s := s) (fr := fr) hz hpl (by rw [l1]; omega) (by rw [l1]; omega) (l := B.take (B.length - 128)) i hi
  have o1 := rg_ok (fr := fr) ok hpl (by rw [l1]; omega) (by rw [l1]; omega) hf (l := B.take (B.length - 128))
  have s1 := (rg_inv s fr k pl (B.take (B.length - 128))).1
  rw [d1] at c1 z1
  unfold jApp at hz ⊢
  have phase1 : ∀ t : Dk, t = (rgWrite s fr k pl (B.take (B.length - 128))).1 →
      (∀ i, i < k → q < i → seeAt (dkCrash t keep torn cut) (fr + (pl + i) % k) = seeAt s (fr + (pl + i) % k)) ∧
      (∀ i, i < q → Tw (seeAt s (fr + (pl + i) % k)) ((B.drop (128 * i)).take 128) (seeAt (dkCrash t keep torn cut) (fr + (pl + i) % k))) ∧
      Tw (seeAt s (fr + (pl + q) % k)) ((B.drop (128 * q)).take 128) (seeAt (dkCrash t keep torn cut) (fr + (pl + q) % k)) ∧
      (seeAt (dkCrash t keep torn cut) (fr + (pl + q) % k) = seeAt s (fr + (pl + q) % k) ∨ ∀ i, i < q → seeAt (dkCrash t keep torn cut) (fr + (pl + i) % k) = (B.drop (128 * i)).take 128) ∧ DkOk t := fun t e => by
    subst e
    have y := (c1 q (by omega)).2 (Nat.le_refl _)
    refine ⟨fun i hi h1 => (c1 i hi).2 (by omega), fun i hi => ?_, .inl y, .inl y, o1⟩
    have := (c1 i (by omega)).1 hi
    rw [tk i hi] at this
    exact this
  by_cases e1 : (rgWrite s fr k pl (B.take (B.length - 128))).2 = 0
  · rw [if_neg (not_not_intro e1)] at hz ⊢
    by_cases e2 : (rgWrite s fr k pl (B.take (B.length - 128))).1.calls = 0
    · rw [if_pos e2]
      exact phase1 _ rfl
    · rw [if_neg e2] at hz ⊢
      have z1 := z1 e1
      clear phase1 c1
      generalize (rgWrite s fr k pl (B.take (B.length - 128))).1 = t1 at *
      have o2 := dkOk_flush o1
      have n2 : (dkFlush t1).safe.length = s.safe.length := by rw [← s1]; exact length_putAll _ _
      have v2 : ∀ i, i < k → seeAt (dkFlush t1) (fr + (pl + i) % k) = if i < q then (B.drop (128 * i)).take 128 else seeAt s (fr + (pl + i) % k) := fun i hi => by
        rw [see_flush o1, z1 i hi]
        split
        · exact tk i (by assumption)
        · rfl
      have hqq : (B.length - 128) / 128 = q := by omega
      have hpq : (pl + (B.length - 128) / 128) % k < k := Nat.mod_lt _ (by omega)
      have c2 := fun i hi => rg_crash (s := dkFlush t1) (fr := fr) rfl hpq (by rw [l2]) (by rw [l2]; omega) (by omega) keep torn cut (l := B.drop (B.length - 128)) i hi
      have z2 := fun hz i hi => rg_zero (s := dkFlush t1) (fr := fr) hz hpq (by rw [l2]) (by rw [l2]; omega) (l := B.drop (B.length - 128)) i hi
      have o3 := rg_ok (fr := fr) o2 hpq (by rw [l2]) (by rw [l2]; omega) (by omega) (l := B.drop (B.length - 128))
      rw [d2] at c2 z2
      have pq : ∀ i, i < k → i ≠ q → ∃ r, r < k ∧ 1 ≤ r ∧ (pl + i) % k = ((pl + (B.length - 128) / 128) % k + r) % k := fun i hi hne => by
        rw [hqq]
        by_cases h1 : q < i
        · exact ⟨i - q, by omega, by omega, by rw [Nat.mod_add_mod, show pl + q + (i - q) = pl + i by omega]⟩
        · exact ⟨k - q + i, by omega, by omega, by rw [Nat.mod_add_mod, show pl + q + (k - q + i) = pl + i + k by omega, Nat.add_mod_right]⟩
      have p0 : (pl + q) % k = ((pl + (B.length - 128) / 128) % k + 0) % k := by rw [Nat.add_zero, Nat.mod_mod, hqq]
      have phase2 : ∀ t : Dk, t = (rgWrite (dkFlush t1) fr k ((pl + (B.length - 128) / 128) % k) (B.drop (B.length - 128))).1 →
          (∀ i, i < k → q < i → seeAt (dkCrash t keep torn cut) (fr + (pl + i) % k) = seeAt s (fr + (pl + i) % k)) ∧
          (∀ i, i < q → Tw (seeAt s (fr + (pl + i) % k)) ((B.drop (128 * i)).take 128) (seeAt (dkCrash t keep torn cut) (fr + (pl + i) % k))) ∧
          Tw (seeAt s (fr + (pl + q) % k)) ((B.drop (128 * q)).take 128) (seeAt (dkCrash t keep torn cut) (fr + (pl + q) % k)) ∧
          (seeAt (dkCrash t keep torn cut) (fr + (pl + q) % k) = seeAt s (fr + (pl + q) % k) ∨ ∀ i, i < q → seeAt (dkCrash t keep torn cut) (fr + (pl + i) % k) = (B.drop (128 * i)).take 128) ∧ DkOk t := fun t e => by
        subst e
        have data : ∀ i, i < q → seeAt (dkCrash (rgWrite (dkFlush t1) fr k ((pl + (B.length - 128) / 128) % k) (B.drop (B.length - 128))).1 keep torn cut) (fr + (pl + i) % k) = (B.drop (128 * i)).take 128 := fun i hi => by
          obtain ⟨r, r1, r2, r3⟩ := pq i (by omega) (by omega)
          rw [r3, (c2 r r1).2 r2, ← r3, v2 i (by omega), if_pos hi]
        refine ⟨fun i hi h1 => ?_, fun i hi => .inr (.inl (data i hi)), ?_, .inr data, o3⟩
        · obtain ⟨r, r1, r2, r3⟩ := pq i hi (by omega)
          rw [r3, (c2 r r1).2 r2, ← r3, v2 i hi, if_neg (by omega)]
        · have := (c2 0 (by omega)).1 (by omega)
          rw [← p0, v2 q (by omega), if_neg (by omega), Nat.mul_zero, List.drop_zero, List.take_of_length_le (by omega)] at this
          have e9 : B.drop (B.length - 128) = (B.drop (128 * q)).take 128 := by
            rw [show B.length - 128 = 128 * q by omega, List.take_of_length_le (by rw [List.length_drop]; omega)]
          rw [e9] at this
          rw [e9]
          exact this
      split at hz
      · rename_i h3
        rw [if_pos h3]
        exact phase2 _ rfl
      · rename_i h3
        rw [if_neg h3]
        dsimp only at hz ⊢
        rcases dkE_or (rgWrite (dkFlush t1) fr k ((pl + (B.length - 128) / 128) % k) (B.drop (B.length - 128))).1 with ⟨z, _⟩ | ⟨_, z⟩
        · exact absurd z hz
        · rw [if_pos z]
          exact phase2 _ rfl
  · rw [if_pos e1]
    exact phase1 _ rfl
end
end Go.Proofs.Ytgpnmmgoachajaa
