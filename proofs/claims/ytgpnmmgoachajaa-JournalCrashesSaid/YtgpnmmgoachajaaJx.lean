/- Crashes upon a ring, in plain Lean: torn sectors, appends that fail on the way, what is joined behind a crash. -/
import Derived.Test.YtgpnmmgoachajaaJq
namespace Go.Proofs.Ytgpnmmgoachajaa
open Go.RowKit
open Go.Proofs

/-- What a crash may leave of a write over what was there. -/
def Tw (old new x : List UInt8) : Prop := x = old ∨ x = new ∨ ∃ c, 0 < c ∧ c < 128 ∧ x = new.take c ++ old.drop c
theorem crash_at (keep : List Int) (torn cut : Int) (a : Nat) (new : List UInt8) : ∀ (q : List (Nat × List UInt8)) (i : Nat) (sf : List (List UInt8)), a < sf.length → (q.map (·.1)).Nodup → (∀ p ∈ q, p.1 = a → p.2 = new) →
    Tw (sf.getD a []) new ((crashTo keep torn cut i sf q).1.getD a []) := by
  intro q
  induction q with
  | nil => intro i sf _ _ _; exact .inl rfl
  | cons p q ih =>
    intro i sf ha hn hq
    rw [List.map_cons, List.nodup_cons] at hn
    have hq2 : ∀ x ∈ q, x.1 = a → x.2 = new := fun x hx => hq x (by simp [hx])
    have other : ∀ i (sf : List (List UInt8)), p.1 = a → (crashTo keep torn cut i sf q).1.getD a [] = sf.getD a [] := fun i sf e => by
      have : ∀ x ∈ q, x.1 ≠ a := fun x hx z => hn.1 (by rw [List.mem_map]; exact ⟨x, hx, z.trans e.symm⟩)
      have h2 := length_crashTo keep torn cut q i sf
      have : ∀ (q : List (Nat × List UInt8)) (i : Nat) (sf : List (List UInt8)), (∀ p ∈ q, p.1 ≠ a) → (crashTo keep torn cut i sf q).1[a]? = sf[a]? := by
        intro q
        induction q with
        | nil => intro i sf _; rfl
        | cons p q ih =>
          intro i sf h
          have hp := h p (by simp)
          have hq : ∀ x ∈ q, x.1 ≠ a := fun x hx => h x (by simp [hx])
          rw [crashTo]
          split
          · show (crashTo keep torn cut (i + 1) (sf.set p.1 p.2) q).1[a]? = _
            rw [ih _ _ hq, List.getElem?_set_ne hp]
          · split
            · rw [ih _ _ hq, List.getElem?_set_ne hp]
            · exact ih _ _ hq
      rw [List.getD_eq_getElem?_getD, this q i sf (by assumption), List.getD_eq_getElem?_getD]
    by_cases e : p.1 = a
    · have e2 := hq p (by simp) e
      rw [crashTo]
      split
      · show Tw _ _ ((crashTo keep torn cut (i + 1) (sf.set p.1 p.2) q).1.getD a [])
        rw [other _ _ e, e, List.getD_eq_getElem?_getD (l := sf.set a p.2), List.getElem?_set_self ha, e2]
        exact .inr (.inl rfl)
      · split
        · rename_i hc
          rw [other _ _ e, e, List.getD_eq_getElem?_getD (l := sf.set a _), List.getElem?_set_self ha, e2]
          exact .inr (.inr ⟨cut.toNat, by omega, by omega, rfl⟩)
        · rw [other _ _ e]
          exact .inl rfl
    · have set_ne : ∀ v, (sf.set p.1 v).getD a [] = sf.getD a [] := fun v => by rw [List.getD_eq_getElem?_getD, List.getElem?_set_ne e, ← List.getD_eq_getElem?_getD]
      rw [crashTo]
      split
      · show Tw _ _ ((crashTo keep torn cut (i + 1) (sf.set p.1 p.2) q).1.getD a [])
        have := ih (i + 1) (sf.set p.1 p.2) (by rw [List.length_set]; exact ha) hn.2 hq2
        rw [set_ne] at this
        exact this
      · split
        · have := ih (i + 1) (sf.set p.1 (p.2.take cut.toNat ++ (sf.getD p.1 []).drop cut.toNat)) (by rw [List.length_set]; exact ha) hn.2 hq2
          rw [set_ne] at this
          exact this
        · exact ih (i + 1) sf ha hn.2 hq2
theorem see_crash_eq (s : Dk) (keep : List Int) (torn cut : Int) (a : Nat) : seeAt (dkCrash s keep torn cut) a = (crashTo keep torn cut 0 s.safe s.queue).1.getD a [] := rfl
theorem see_no_queue {s : Dk} (h : s.queue = []) (a : Nat) : seeAt s a = s.safe.getD a [] := by
  unfold seeAt
  rw [h]
  rfl
/-- Of a torn sector: its first octet, its epoch. -/
theorem getN_four (a b c d : UInt8) : getN [a, b, c, d] = a.toNat + 256 * (b.toNat + 256 * (c.toNat + 256 * d.toNat)) := by
  simp only [getN]
  omega
theorem four_of : ∀ (l : List UInt8), l.length = 128 → ∃ z a b c d r, l = z :: a :: b :: c :: d :: r
  | z :: a :: b :: c :: d :: r, _ => ⟨z, a, b, c, d, r, rfl⟩
theorem ep_torn {old new : List UInt8} (ho : old.length = 128) (hn : new.length = 128) (e : Nat) (he : e < 256) (h1 : epOf old ≤ e) (h2 : epOf new ≤ e) (c : Nat) (hc : 0 < c) : epOf (new.take c ++ old.drop c) ≤ e := by
  obtain ⟨z, a1, a2, a3, a4, r, rfl⟩ := four_of old ho
  obtain ⟨y, b1, b2, b3, b4, q, rfl⟩ := four_of new hn
  have g1 : epOf (z :: a1 :: a2 :: a3 :: a4 :: r) = getN [a1, a2, a3, a4] := rfl
  have g2 : epOf (y :: b1 :: b2 :: b3 :: b4 :: q) = getN [b1, b2, b3, b4] := rfl
  rw [g1, getN_four] at h1
  rw [g2, getN_four] at h2
  match c, hc with
  | 1, _ =>
    show getN [a1, a2, a3, a4] ≤ e
    rw [getN_four]; omega
  | 2, _ =>
    show getN [b1, a2, a3, a4] ≤ e
    rw [getN_four]; omega
  | 3, _ =>
    show getN [b1, b2, a3, a4] ≤ e
    rw [getN_four]; omega
  | 4, _ =>
    show getN [b1, b2, b3, a4] ≤ e
    rw [getN_four]; omega
  | c + 5, _ =>
    show getN [b1, b2, b3, b4] ≤ e
    rw [getN_four]; omega
theorem first_torn {old new : List UInt8} (hn : new.length = 128) (c : Nat) (hc : 0 < c) : (new.take c ++ old.drop c).take 1 = new.take 1 := by
  obtain ⟨y, b1, b2, b3, b4, q, rfl⟩ := four_of new hn
  match c, hc with
  | c + 1, _ => rfl
theorem get_foot {D : List UInt8} {p : Prt} (h : prtGet D = some p) : p.foot = (numAt D 0 1 == 70) := by
  rw [prtGet_dec h]
  rfl
theorem foot_first {D E : List UInt8} {p r : Prt} (h : prtGet D = some p) (h2 : prtGet E = some r) (e : E.take 1 = D.take 1) : r.foot = p.foot := by
  rw [get_foot h, get_foot h2]
  unfold numAt
  rw [List.drop_zero, List.drop_zero, e]
/-- Without a foot nothing is joined. -/
theorem joinAt_nofoot (b : List UInt8) (e : Nat) (n : Int) (h : ∀ i, 128 * (i + 1) ≤ b.length → ∀ p, prtGet ((b.drop (128 * i)).take 128) = some p → p.epoch ≠ (e : Int) ∨ p.foot = false) : ∀ f i l, joinAt b (e : Int) n f i l = ([], 0)
  | 0, _, _ => rfl
  | f + 1, i, l => by
    by_cases hb : 128 * (i + 1) ≤ b.length
    · cases hg : prtGet ((b.drop (128 * i)).take 128) with
      | none => exact joinAt_none hg
      | some p =>
        by_cases hp : p.epoch = (e : Int) ∧ p.number = n ∧ p.index = (i : Int)
        · have hf := (h i hb p hg).resolve_left (fun z => z hp.1)
          rw [joinAt_part hb hg hp hf]
          exact joinAt_nofoot b e n h f _ _
        · exact joinAt_other hg hp
    · exact joinAt_end hb
theorem join_nofoot (b : List UInt8) (e : Nat) (n : Int) (h : ∀ i, 128 * (i + 1) ≤ b.length → ∀ p, prtGet ((b.drop (128 * i)).take 128) = some p → p.epoch ≠ (e : Int) ∨ p.foot = false) : joinOf b (e : Int) n = ([], 0) := joinAt_nofoot b e n h _ _ _
end Go.Proofs.Ytgpnmmgoachajaa
