/- Layer 3 in plain Lean: a disk: what is safe, which writes wait, the calls till the power is off, how many were written; what is done with it. -/
import Derived.Test.YtgpnmmgoachajaaMem
namespace Go.Proofs.Ytgpnmmgoachajaa
open Go.RowKit
open Go.Proofs

structure Dk where
  safe : List (List UInt8)
  queue : List (Nat × List UInt8)
  calls : Int
  writes : Int
/-- The latest write that waits for a sector. -/
def lastAt (q : List (Nat × List UInt8)) (a : Nat) : Option (List UInt8) := q.foldl (fun r p => if p.1 = a then some p.2 else r) none
theorem lastAt_nil (a : Nat) : lastAt [] a = none := rfl
theorem lastAt_snoc (q : List (Nat × List UInt8)) (p : Nat × List UInt8) (a : Nat) : lastAt (q ++ [p]) a = if p.1 = a then some p.2 else lastAt q a := by
  simp [lastAt, List.foldl_append]
theorem lastAt_none (a : Nat) : ∀ (q : List (Nat × List UInt8)), (∀ p ∈ q, p.1 ≠ a) → lastAt q a = none := by
  intro q
  have : ∀ (q : List (Nat × List UInt8)) (r : Option (List UInt8)), (∀ p ∈ q, p.1 ≠ a) → q.foldl (fun r p => if p.1 = a then some p.2 else r) r = r := by
    intro q
    induction q with
    | nil => intro r _; rfl
    | cons p q ih =>
      intro r h
      rw [List.foldl_cons, if_neg (h p (by simp))]
      exact ih r (fun x hx => h x (by simp [hx]))
  exact this q none
def seeAt (s : Dk) (a : Nat) : List UInt8 := (lastAt s.queue a).getD (s.safe.getD a [])
/-- All that waits is made safe. -/
def putAll (sf : List (List UInt8)) (q : List (Nat × List UInt8)) : List (List UInt8) := q.foldl (fun f p => f.set p.1 p.2) sf
theorem putAll_nil (sf : List (List UInt8)) : putAll sf [] = sf := rfl
theorem putAll_cons (sf : List (List UInt8)) (p : Nat × List UInt8) (q : List (Nat × List UInt8)) : putAll sf (p :: q) = putAll (sf.set p.1 p.2) q := rfl
theorem putAll_snoc (sf : List (List UInt8)) (p : Nat × List UInt8) (q : List (Nat × List UInt8)) : putAll sf (q ++ [p]) = (putAll sf q).set p.1 p.2 := by simp [putAll, List.foldl_append]
theorem length_putAll (sf : List (List UInt8)) (q : List (Nat × List UInt8)) : (putAll sf q).length = sf.length := by
  induction q generalizing sf with
  | nil => rfl
  | cons p q ih => rw [putAll_cons, ih, List.length_set]
structure DkOk (s : Dk) : Prop where
  safe : ∀ x ∈ s.safe, x.length = 128
  queue : ∀ p ∈ s.queue, p.1 < s.safe.length ∧ p.2.length = 128
theorem safe_set {sf : List (List UInt8)} (h : ∀ x ∈ sf, x.length = 128) (a : Nat) (y : List UInt8) (hy : y.length = 128) : ∀ x ∈ sf.set a y, x.length = 128 := fun x hx => by
  rcases List.mem_or_eq_of_mem_set hx with h1 | h1
  · exact h x h1
  · rw [h1]; exact hy
theorem safe_putAll (q : List (Nat × List UInt8)) : ∀ (sf : List (List UInt8)), (∀ x ∈ sf, x.length = 128) → (∀ p ∈ q, p.2.length = 128) → ∀ x ∈ putAll sf q, x.length = 128 := by
  induction q with
  | nil => intro sf h _; exact h
  | cons p q ih => intro sf h hq; exact ih _ (safe_set h _ _ (hq p (by simp))) (fun x hx => hq x (by simp [hx]))
theorem lastAt_len (q : List (Nat × List UInt8)) (h : ∀ p ∈ q, p.2.length = 128) (a : Nat) (y : List UInt8) (hy : lastAt q a = some y) : y.length = 128 := by
  have : ∀ (q : List (Nat × List UInt8)) (r : Option (List UInt8)), (∀ p ∈ q, p.2.length = 128) → (∀ y, r = some y → y.length = 128) → ∀ y, q.foldl (fun r p => if p.1 = a then some p.2 else r) r = some y → y.length = 128 := by
    intro q
    induction q with
    | nil => intro r _ hr y hy; exact hr y hy
    | cons p q ih =>
      intro r hq hr y hy
      rw [List.foldl_cons] at hy
      refine ih _ (fun x hx => hq x (by simp [hx])) ?_ y hy
      intro z hz
      split at hz
      · injection hz with hz; rw [← hz]; exact hq p (by simp)
      · exact hr z hz
  exact this q none h (fun _ e => by cases e) y hy
theorem length_seeAt {s : Dk} (h : DkOk s) (a : Nat) (ha : a < s.safe.length) : (seeAt s a).length = 128 := by
  unfold seeAt
  cases hl : lastAt s.queue a with
  | some y => exact lastAt_len _ (fun p hp => (h.queue p hp).2) a y hl
  | none =>
    rw [Option.getD_none, List.getD_eq_getElem?_getD, List.getElem?_eq_getElem ha]
    exact h.safe _ (List.getElem_mem ha)

/-- A call that counts. -/
def callTo (c : Int) : Int := if c - 1 < -1 then -1 else c - 1
/-- The writes of octets from a sector on. -/
def cutSec (at_ : Nat) (l : List UInt8) (k : Nat) : List (Nat × List UInt8) := (List.range k).map fun i => (at_ + i, (l.drop (128 * i)).take 128)
theorem cutSec_succ (at_ : Nat) (l : List UInt8) (k : Nat) : cutSec at_ l (k + 1) = cutSec at_ l k ++ [(at_ + k, (l.drop (128 * k)).take 128)] := by simp [cutSec, List.range_succ]
theorem length_cutSec (at_ : Nat) (l : List UInt8) (k : Nat) : (cutSec at_ l k).length = k := by simp [cutSec]
def dkWrite (s : Dk) (at_ : Nat) (l : List UInt8) : Dk := { s with queue := s.queue ++ cutSec at_ l (l.length / 128), calls := callTo s.calls, writes := s.writes + ((l.length / 128 : Nat) : Int) }
def dkFlush (s : Dk) : Dk := { s with safe := putAll s.safe s.queue, queue := [], calls := callTo s.calls }
def dkRead (s : Dk) : Dk := { s with calls := callTo s.calls }
/-- What a crash leaves, and how many writes it keeps. -/
def crashTo (keep : List Int) (torn cut : Int) : Nat → List (List UInt8) → List (Nat × List UInt8) → List (List UInt8) × Nat
  | _, sf, [] => (sf, 0)
  | i, sf, p :: q =>
    if (i : Int) ∈ keep then ((crashTo keep torn cut (i + 1) (sf.set p.1 p.2) q).1, (crashTo keep torn cut (i + 1) (sf.set p.1 p.2) q).2 + 1)
    else if (i : Int) = torn ∧ 0 < cut ∧ cut < 128 then crashTo keep torn cut (i + 1) (sf.set p.1 (p.2.take cut.toNat ++ (sf.getD p.1 []).drop cut.toNat)) q
    else crashTo keep torn cut (i + 1) sf q
def dkCrash (s : Dk) (keep : List Int) (torn cut : Int) : Dk := { s with safe := (crashTo keep torn cut 0 s.safe s.queue).1, queue := [], calls := -1 }
theorem length_crashTo (keep : List Int) (torn cut : Int) (q : List (Nat × List UInt8)) : ∀ (i : Nat) (sf : List (List UInt8)), (crashTo keep torn cut i sf q).1.length = sf.length := by
  induction q with
  | nil => intro i sf; rfl
  | cons p q ih =>
    intro i sf
    rw [crashTo]
    split
    · show (crashTo keep torn cut (i + 1) (sf.set p.1 p.2) q).1.length = _
      rw [ih, List.length_set]
    · split
      · rw [ih, List.length_set]
      · exact ih _ _
theorem dkOk_write {s : Dk} (h : DkOk s) (at_ : Nat) (l : List UInt8) (hl : l.length % 128 = 0) (ha : at_ + l.length / 128 ≤ s.safe.length) : DkOk (dkWrite s at_ l) := by
  refine ⟨h.safe, fun p hp => ?_⟩
  rcases List.mem_append.1 hp with h1 | h1
  · exact h.queue p h1
  · simp only [cutSec, List.mem_map, List.mem_range] at h1
    obtain ⟨i, hi, rfl⟩ := h1
    refine ⟨?_, ?_⟩
    · show at_ + i < s.safe.length; omega
    · show ((l.drop (128 * i)).take 128).length = 128
      rw [List.length_take, List.length_drop]; omega
theorem dkOk_flush {s : Dk} (h : DkOk s) : DkOk (dkFlush s) := ⟨safe_putAll _ _ h.safe (fun p hp => (h.queue p hp).2), fun p hp => by cases hp⟩
theorem dkOk_read {s : Dk} (h : DkOk s) : DkOk (dkRead s) := ⟨h.safe, h.queue⟩
theorem safe_crashTo (keep : List Int) (torn cut : Int) (q : List (Nat × List UInt8)) : ∀ (i : Nat) (sf : List (List UInt8)), (∀ x ∈ sf, x.length = 128) → (∀ p ∈ q, p.1 < sf.length ∧ p.2.length = 128) → ∀ x ∈ (crashTo keep torn cut i sf q).1, x.length = 128 := by
  induction q with
  | nil => intro i sf h _; exact h
  | cons p q ih =>
    intro i sf h hq
    have hp := hq p (by simp)
    have hq2 : ∀ x ∈ q, x.1 < sf.length ∧ x.2.length = 128 := fun x hx => hq x (by simp [hx])
    rw [crashTo]
    split
    · exact ih (i + 1) _ (safe_set h _ _ hp.2) (fun x hx => by rw [List.length_set]; exact hq2 x hx)
    · split
      · rename_i hc
        refine ih (i + 1) _ (safe_set h _ _ ?_) (fun x hx => by rw [List.length_set]; exact hq2 x hx)
        have : (sf.getD p.1 []).length = 128 := by
          rw [List.getD_eq_getElem?_getD, List.getElem?_eq_getElem hp.1]
          exact h _ (List.getElem_mem hp.1)
        rw [List.length_append, List.length_take, List.length_drop, this, hp.2]
        omega
      · exact ih (i + 1) sf h hq2
theorem dkOk_crash {s : Dk} (h : DkOk s) (keep : List Int) (torn cut : Int) : DkOk (dkCrash s keep torn cut) :=
  ⟨safe_crashTo keep torn cut s.queue 0 s.safe h.safe h.queue, fun p hp => by cases hp⟩
def dkImage (s : Dk) : List UInt8 := (List.range s.safe.length).flatMap (seeAt s)
def dkSecs (s : Dk) (at_ k : Nat) : List UInt8 := (List.range k).flatMap fun i => seeAt s (at_ + i)
theorem dkSecs_succ (s : Dk) (at_ k : Nat) : dkSecs s at_ (k + 1) = dkSecs s at_ k ++ seeAt s (at_ + k) := by simp [dkSecs, List.range_succ]
theorem dkImage_secs (s : Dk) : dkImage s = dkSecs s 0 s.safe.length := by simp [dkImage, dkSecs]
theorem length_dkSecs {s : Dk} (h : DkOk s) (at_ : Nat) : ∀ k, at_ + k ≤ s.safe.length → (dkSecs s at_ k).length = 128 * k
  | 0, _ => rfl
  | k + 1, hk => by
    rw [dkSecs_succ, List.length_append, length_dkSecs h at_ k (by omega), length_seeAt h _ (by omega)]
    omega
def dkNew (n : Nat) : Dk := ⟨List.replicate n (List.replicate 128 0), [], -1, 0⟩
theorem dkOk_new (n : Nat) : DkOk (dkNew n) := ⟨fun x hx => by rw [List.eq_of_mem_replicate hx, List.length_replicate], fun p hp => by cases hp⟩
end Go.Proofs.Ytgpnmmgoachajaa
