/- What is opened of a ring, in plain Lean. -/
import Derived.Test.YtgpnmmgoachajaaJp
namespace Go.Proofs.Ytgpnmmgoachajaa
open Go.RowKit
open Go.Proofs

/-- A sector's epoch, by its octets alone. -/
def epOf (D : List UInt8) : Nat := getN ((D.drop 1).take 4)
theorem epOf_lt (D : List UInt8) : epOf D < 4294967296 := by
  have h := getN_lt ((D.drop 1).take 4)
  have h2 : ((D.drop 1).take 4).length ≤ 4 := by rw [List.length_take]; omega
  have h3 : 256 ^ ((D.drop 1).take 4).length ≤ 256 ^ 4 := Nat.pow_le_pow_right (by decide) h2
  unfold epOf
  exact Nat.lt_of_lt_of_le h h3
theorem prtGet_dec {D : List UInt8} {p : Prt} (h : prtGet D = some p) : p = prtDec D := by
  unfold prtGet at h
  split at h
  · injection h with h; exact h.symm
  · cases h
theorem prtGet_ep {D : List UInt8} {p : Prt} (h : prtGet D = some p) : p.epoch = (epOf D : Int) := by
  rw [prtGet_dec h]
  show i64of (getN ((D.drop 1).take 4)) = _
  exact i64of_small _ (by have := epOf_lt D; unfold epOf at this; omega)
theorem ep_put (p : Prt) (h : prtRight p) : (epOf (prtPut p) : Int) = p.epoch := (prtGet_ep (get_prt p h)).symm
/-- Transactions' sectors, one behind the other. -/
def jcuts (e : Nat) : Nat → List (List UInt8) → List UInt8
  | _, [] => []
  | c, P :: Ps => cutOf (e : Int) (c : Int) P ++ jcuts e (c + 1) Ps
def jtot : List (List UInt8) → Nat
  | [] => 0
  | P :: Ps => (nsec P + 1) + jtot Ps
theorem jcuts_snoc (e : Nat) (P : List UInt8) : ∀ (Ps : List (List UInt8)) (c : Nat), jcuts e c (Ps ++ [P]) = jcuts e c Ps ++ cutOf (e : Int) ((c + Ps.length : Nat) : Int) P
  | [], c => by simp [jcuts]
  | Q :: Ps, c => by
    rw [List.cons_append, jcuts, jcuts_snoc e P Ps (c + 1), jcuts, List.append_assoc, List.length_cons, show c + 1 + Ps.length = c + (Ps.length + 1) by omega]
theorem jtot_snoc (P : List UInt8) : ∀ Ps : List (List UInt8), jtot (Ps ++ [P]) = jtot Ps + (nsec P + 1)
  | [] => by simp [jtot]
  | Q :: Ps => by rw [List.cons_append, jtot, jtot_snoc P Ps, jtot]; omega
theorem jtot_ge : ∀ Ps : List (List UInt8), Ps.length ≤ jtot Ps
  | [] => Nat.le_refl _
  | P :: Ps => by have := jtot_ge Ps; rw [jtot, List.length_cons]; omega
/-- What is opened of octets: the payloads, and how many sectors they have. -/
def opn : Nat → List UInt8 → Nat → Nat → List (List UInt8) × Nat
  | 0, _, _, _ => ([], 0)
  | f + 1, b, e, c => if (joinOf b (e : Int) (c : Int)).2 = 0 then ([], 0) else ((joinOf b (e : Int) (c : Int)).1 :: (opn f (b.drop (128 * (joinOf b (e : Int) (c : Int)).2)) e (c + 1)).1, (joinOf b (e : Int) (c : Int)).2 + (opn f (b.drop (128 * (joinOf b (e : Int) (c : Int)).2)) e (c + 1)).2)
def Pay (P : List UInt8) : Prop := 1 ≤ P.length ∧ P.length ≤ 65000
theorem opn_jcuts (e : Nat) (he : 1 ≤ e ∧ e ≤ 2147483648) (rest : List UInt8) : ∀ (Ps : List (List UInt8)) (c f : Nat), (∀ P ∈ Ps, Pay P) → c + Ps.length ≤ 2147483648 → (joinOf rest (e : Int) ((c + Ps.length : Nat) : Int)).2 = 0 → Ps.length < f → opn f (jcuts e c Ps ++ rest) e c = (Ps, jtot Ps)
  | [], c, f + 1, _, _, hs, _ => by
    rw [List.length_nil, Nat.add_zero] at hs
    rw [jcuts, List.nil_append, opn, if_pos hs]
    rfl
  | P :: Ps, c, f + 1, hp, hc, hs, hf => by
    have hP := hp P (List.mem_cons_self ..)
    rw [List.length_cons] at hc hs hf
    have hid : idRight (e : Int) (c : Int) := ⟨by omega, by omega, by omega, by omega⟩
    have hj := join_cut hid P hP.1 hP.2 (jcuts e (c + 1) Ps ++ rest)
    have hL := length_cutOf hid P (by have := nsec_le P hP.2; omega)
    have ih := opn_jcuts e he rest Ps (c + 1) f (fun Q hQ => hp Q (List.mem_cons_of_mem _ hQ)) (by omega) (by rw [show c + 1 + Ps.length = c + (Ps.length + 1) by omega]; exact hs) (by omega)
    rw [jcuts, List.append_assoc, opn, hj]
    dsimp only
    rw [if_neg (by omega), List.drop_append_of_le_length (by omega), List.drop_of_length_le (by omega), List.nil_append, ih]
    rfl
/-- What begins with another epoch's sector, or is less than one, joins to nothing. -/
theorem join_fore (b : List UInt8) (e : Nat) (n : Int) (h : b.length < 128 ∨ epOf (b.take 128) ≠ e) : joinOf b (e : Int) n = ([], 0) := by
  unfold joinOf
  by_cases hb : b.length < 128
  · exact joinAt_end (by omega)
  · have h := h.resolve_left hb
    cases hg : prtGet ((b.drop (128 * 0)).take 128) with
    | none => exact joinAt_none hg
    | some p =>
      refine joinAt_other hg ?_
      rintro ⟨h1, _⟩
      have h2 := prtGet_ep hg
      rw [Nat.mul_zero, List.drop_zero] at h2
      apply h
      omega
/-- What a ring has. -/
structure Cont (s : Dk) (fr k st e : Nat) (Ps : List (List UInt8)) : Prop where
  pays : ∀ P ∈ Ps, Pay P
  fit : jtot Ps ≤ k
  cut : rall s fr k st (jtot Ps) = jcuts e 0 Ps
  stop : (joinOf (rall s fr k (st + jtot Ps) (k - jtot Ps)) (e : Int) ((Ps.length : Nat) : Int)).2 = 0
  low : ∀ a, a < k → epOf (seeAt s (fr + a)) ≤ e
/-- No sector behind what is used has the epoch. -/
def Clean (s : Dk) (fr k st e u : Nat) : Prop := ∀ i, u ≤ i → i < k → epOf (rsec s fr k st i) ≠ e
section
variable {s : Dk} {fr k st e : Nat} {Ps : List (List UInt8)}
theorem Cont.opens (h : Cont s fr k st e Ps) (he : 1 ≤ e ∧ e ≤ 2147483648) (hl : Ps.length ≤ 2147483648) (f : Nat) (hf : Ps.length < f) : opn f (rall s fr k st k) e 0 = (Ps, jtot Ps) := by
  have hfit := h.fit
  have e1 : rall s fr k st k = jcuts e 0 Ps ++ rall s fr k (st + jtot Ps) (k - jtot Ps) := by
    conv => lhs; rw [show k = jtot Ps + (k - jtot Ps) by omega]
    rw [show rall s fr (jtot Ps + (k - jtot Ps)) st (jtot Ps + (k - jtot Ps)) = rall s fr k st (jtot Ps + (k - jtot Ps)) by rw [show jtot Ps + (k - jtot Ps) = k by omega], rall_add, h.cut]
  rw [e1]
  exact opn_jcuts e he _ Ps 0 f h.pays (by omega) (by rw [Nat.zero_add]; exact h.stop) hf
theorem clean_stop (ok : DkOk s) (hk : 0 < k) (hf : fr + k ≤ s.safe.length) {u : Nat} (hu : u ≤ k) (h : Clean s fr k st e u) (n : Int) : (joinOf (rall s fr k (st + u) (k - u)) (e : Int) n).2 = 0 := by
  rw [join_fore]
  by_cases hz : u = k
  · left
    rw [hz, Nat.sub_self]
    show 0 < 128
    decide
  · right
    have h1 := h u (Nat.le_refl _) (by omega)
    have h2 : (rsec s fr k (st + u) 0).length = 128 := by
      unfold rsec
      exact length_seeAt ok _ (by have := Nat.mod_lt (st + u + 0) hk; omega)
    obtain ⟨r, hr⟩ : ∃ r, k - u = 1 + r := ⟨k - u - 1, by omega⟩
    have e1 : rall s fr k (st + u) 1 = rsec s fr k (st + u) 0 := by rw [rall_succ]; rfl
    rw [hr, rall_add, e1, List.take_append_of_le_length (by omega), List.take_of_length_le (by omega)]
    have e2 : rsec s fr k (st + u) 0 = rsec s fr k st u := by unfold rsec; rw [Nat.add_zero]
    rw [e2]
    exact h1
theorem rsec_low (h : Cont s fr k st e Ps) (hk : 0 < k) (t i : Nat) : epOf (rsec s fr k t i) ≤ e := h.low _ (Nat.mod_lt _ hk)
/-- A sector of a transaction has its epoch. -/
theorem ep_cut {e : Nat} {c : Int} (hid : idRight (e : Int) c) (P : List UInt8) (hp : P.length ≤ 65000) (i : Nat) (hi : i < nsec P + 1) : epOf (((cutOf (e : Int) c P).drop (128 * i)).take 128) = e := by
  have hn := nsec_le P hp
  by_cases h : i < nsec P
  · have := sec_cut hid P (by omega) i h []
    rw [List.append_nil] at this
    rw [this]
    have h2 := ep_put _ (prtOf_right hid P i (by omega))
    have h3 : (prtOf (e : Int) c P i).epoch = (e : Int) := rfl
    omega
  · have := sec_foot hid P (by omega) []
    rw [List.append_nil] at this
    rw [show i = nsec P by omega, this]
    have h2 := ep_put _ (ftOf_right hid P (nsec P) (by omega))
    have h3 : (ftOf (e : Int) c P (nsec P)).epoch = (e : Int) := rfl
    omega
theorem Cont.append (h : Cont s fr k st e Ps) (hcl : Clean s fr k st e (jtot Ps)) (hc : s.calls = -1) (ok : DkOk s) (hk : 0 < k) (hf : fr + k ≤ s.safe.length) (P : List UInt8) (hP : Pay P) (hid : idRight (e : Int) ((Ps.length : Nat) : Int)) (hq : jtot Ps + (nsec P + 1) ≤ k)
    (ok' : DkOk (jApp s fr k ((st + jtot Ps) % k) (cutOf (e : Int) ((Ps.length : Nat) : Int) P)).1) (hsl : (jApp s fr k ((st + jtot Ps) % k) (cutOf (e : Int) ((Ps.length : Nat) : Int) P)).1.safe.length = s.safe.length) :
    Cont (jApp s fr k ((st + jtot Ps) % k) (cutOf (e : Int) ((Ps.length : Nat) : Int) P)).1 fr k st e (Ps ++ [P]) ∧ Clean (jApp s fr k ((st + jtot Ps) % k) (cutOf (e : Int) ((Ps.length : Nat) : Int) P)).1 fr k st e (jtot (Ps ++ [P])) := by
  have hn := nsec_le P hP.2
  have hL := length_cutOf hid P (by omega)
  obtain ⟨r1, r2, r3⟩ := rall_japp hc ok fr k st (jtot Ps) (nsec P) (cutOf (e : Int) ((Ps.length : Nat) : Int) P) hk hL hq hf
  have v := see_japp hc ok fr k ((st + jtot Ps) % k) (nsec P) (cutOf (e : Int) ((Ps.length : Nat) : Int) P) (Nat.mod_lt _ hk) hL (by omega) hf
  have ec := fun i hi => ep_cut hid P hP.2 i hi
  have hcs : jcuts e 0 (Ps ++ [P]) = jcuts e 0 Ps ++ cutOf (e : Int) ((Ps.length : Nat) : Int) P := by rw [jcuts_snoc, Nat.zero_add]
  generalize cutOf (e : Int) ((Ps.length : Nat) : Int) P = B at *
  generalize (jApp s fr k ((st + jtot Ps) % k) B).1 = s' at *
  have ht := jtot_snoc P Ps
  have old : ∀ i, i < k → nsec P + 1 ≤ i → rsec s' fr k (st + jtot Ps) i = rsec s fr k (st + jtot Ps) i := fun i hi h1 => r3 i hi h1 hi
  have shift : ∀ (t : Dk) u i, rsec t fr k (st + u) i = rsec t fr k st (u + i) := fun t u i => by unfold rsec; rw [Nat.add_assoc]
  have cl : Clean s' fr k st e (jtot (Ps ++ [P])) := fun i h1 h2 => by
    rw [ht] at h1
    have e1 : i = jtot Ps + (i - jtot Ps) := by omega
    rw [e1, ← shift, old _ (by omega) (by omega), shift, ← e1]
    exact hcl i (by omega) h2
  have lw : ∀ a, a < k → epOf (seeAt s' (fr + a)) ≤ e := fun a ha => by
    obtain ⟨i, hi, e1⟩ : ∃ i, i < k ∧ a = ((st + jtot Ps) % k + i) % k := by
      have hm := Nat.mod_lt (st + jtot Ps) hk
      by_cases h1 : (st + jtot Ps) % k ≤ a
      · exact ⟨a - (st + jtot Ps) % k, by omega, by rw [show (st + jtot Ps) % k + (a - (st + jtot Ps) % k) = a by omega, Nat.mod_eq_of_lt ha]⟩
      · exact ⟨a + k - (st + jtot Ps) % k, by omega, by rw [show (st + jtot Ps) % k + (a + k - (st + jtot Ps) % k) = a + k by omega, Nat.add_mod_right, Nat.mod_eq_of_lt ha]⟩
    rw [e1, v i hi]
    split
    · rename_i h2
      rw [ec i h2]
      exact Nat.le_refl _
    · rw [← e1]
      exact h.low a ha
  refine ⟨⟨?_, by omega, ?_, ?_, lw⟩, cl⟩
  · intro Q hQ
    rw [List.mem_append, List.mem_singleton] at hQ
    rcases hQ with hQ | rfl
    · exact h.pays Q hQ
    · exact hP
  · rw [ht, rall_add, r1, h.cut, r2, hcs]
  · exact clean_stop ok' hk (by omega) (by omega) cl _
/-- A new epoch. -/
theorem Cont.reset (h : Cont s fr k st e Ps) (ok : DkOk s) (hk : 0 < k) (hf : fr + k ≤ s.safe.length) (st' : Nat) : Cont s fr k st' (e + 1) [] ∧ Clean s fr k st' (e + 1) 0 := by
  have cl : Clean s fr k st' (e + 1) 0 := fun i _ hi => by have := rsec_low h hk st' i; omega
  exact ⟨⟨(fun P hP => (by cases hP)), Nat.zero_le _, rfl, clean_stop ok hk hf (Nat.zero_le _) cl _, fun a ha => Nat.le_trans (h.low a ha) (by omega)⟩, cl⟩
/-- A new disk. -/
theorem cont_new (size fr k st e : Nat) (he : 1 ≤ e) (hk : 0 < k) (hf : fr + k ≤ size) : Cont (dkNew size) fr k st e [] ∧ Clean (dkNew size) fr k st e 0 := by
  have z : ∀ a, a < size → epOf (seeAt (dkNew size) a) = 0 := fun a ha => by
    have : seeAt (dkNew size) a = List.replicate 128 0 := by
      unfold seeAt
      show (List.replicate size (List.replicate 128 (0 : UInt8))).getD a [] = _
      rw [List.getD_eq_getElem?_getD, List.getElem?_replicate, if_pos ha]
      rfl
    rw [this]
    decide
  have cl : Clean (dkNew size) fr k st e 0 := fun i _ hi => by
    unfold rsec
    rw [z _ (by have := Nat.mod_lt (st + i) hk; omega)]
    omega
  exact ⟨⟨(fun P hP => (by cases hP)), Nat.zero_le _, rfl, clean_stop (dkOk_new size) hk (by show fr + k ≤ (List.replicate size _).length; rw [List.length_replicate]; exact hf) (Nat.zero_le _) cl _, fun a ha => by rw [z _ (by omega)]; exact Nat.zero_le _⟩, cl⟩
end
end Go.Proofs.Ytgpnmmgoachajaa
