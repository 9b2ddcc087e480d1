/- Behind a crash the ring has what was sure, or that and what was under way. -/
import Derived.Test.YtgpnmmgoachajaaJx
namespace Go.Proofs.Ytgpnmmgoachajaa
open Go.RowKit
open Go.Proofs

theorem rall_sec {s : Dk} (ok : DkOk s) (fr k t : Nat) (hk : 0 < k) (hf : fr + k ≤ s.safe.length) : ∀ n i, i < n → ((rall s fr k t n).drop (128 * i)).take 128 = rsec s fr k t i
  | 0, i, h => by omega
  | n + 1, i, h => by
    have hl := length_rall ok fr k t hk hf n
    have hs : (rsec s fr k t n).length = 128 := by
      unfold rsec
      exact length_seeAt ok _ (by have := Nat.mod_lt (t + n) hk; omega)
    rw [rall_succ]
    by_cases hi : i < n
    · rw [List.drop_append_of_le_length (by omega), List.take_append_of_le_length (by rw [List.length_drop]; omega)]
      exact rall_sec ok fr k t hk hf n i hi
    · obtain rfl : i = n := by omega
      rw [List.drop_append_of_le_length (by omega), List.drop_of_length_le (by omega), List.nil_append, List.take_of_length_le (by omega)]
/-- All parts, and no foot behind them. -/
theorem join_torn {e : Nat} {n : Int} (h : idRight (e : Int) n) (P : List UInt8) (hP : Pay P) (b : List UInt8) (hb : 128 * (nsec P + 1) ≤ b.length) (hd : ∀ i, i < nsec P → (b.drop (128 * i)).take 128 = prtPut (prtOf (e : Int) n P i))
    (hy : (b.drop (128 * nsec P)).take 128 ≠ prtPut (ftOf (e : Int) n P (nsec P))) (hf : ∀ p, prtGet ((b.drop (128 * nsec P)).take 128) = some p → p.epoch ≠ (e : Int) ∨ p.foot = true) : joinOf b (e : Int) n = ([], 0) := by
  have hk := nsec_le P hP.2
  unfold joinOf
  rw [show b.length / 128 + 1 = (b.length / 128 - nsec P + 1) + nsec P by omega, join_run h b P (nsec P) (by omega) (by omega) hd _, List.take_of_length_le (nsec_all P)]
  cases hg : prtGet ((b.drop (128 * nsec P)).take 128) with
  | none => exact joinAt_none hg
  | some p =>
    by_cases hp : p.epoch = (e : Int) ∧ p.number = n ∧ p.index = ((nsec P : Nat) : Int)
    · have hft := (hf p hg).resolve_left (fun z => z hp.1)
      rw [joinAt_foot hb hg hp hft, if_neg]
      rintro ⟨_, hc⟩
      apply hy
      have h1 := sec_foot h P (by omega) []
      rw [List.append_nil, hc] at h1
      rw [← h1, List.drop_take, List.take_take, Nat.min_eq_left (by omega)]
    · exact joinAt_other hg hp

/-- Behind a crash in the midst of an append. -/
theorem after_crash {s s' : Dk} {fr k st e : Nat} {Ps : List (List UInt8)} (h : Cont s fr k st e Ps) (hcl : Clean s fr k st e (jtot Ps)) (ok : DkOk s) (ok' : DkOk s') (hk : 0 < k) (hf : fr + k ≤ s.safe.length) (hf' : fr + k ≤ s'.safe.length) (he : e < 256) (P : List UInt8) (hP : Pay P)
    (hid : idRight (e : Int) ((Ps.length : Nat) : Int)) (hq : jtot Ps + (nsec P + 1) ≤ k)
    (hsame : ∀ i, i < k → (i < jtot Ps ∨ jtot Ps + nsec P < i) → rsec s' fr k st i = rsec s fr k st i)
    (hdata : ∀ i, i < nsec P → Tw (rsec s fr k st (jtot Ps + i)) (((cutOf (e : Int) ((Ps.length : Nat) : Int) P).drop (128 * i)).take 128) (rsec s' fr k st (jtot Ps + i)))
    (hfoot : Tw (rsec s fr k st (jtot Ps + nsec P)) (((cutOf (e : Int) ((Ps.length : Nat) : Int) P).drop (128 * nsec P)).take 128) (rsec s' fr k st (jtot Ps + nsec P)))
    (hor : rsec s' fr k st (jtot Ps + nsec P) = rsec s fr k st (jtot Ps + nsec P) ∨ ∀ i, i < nsec P → rsec s' fr k st (jtot Ps + i) = ((cutOf (e : Int) ((Ps.length : Nat) : Int) P).drop (128 * i)).take 128) :
    Cont s' fr k st e Ps ∨ Cont s' fr k st e (Ps ++ [P]) := by
  have hn := nsec_le P hP.2
  have hL := length_cutOf hid P (by omega)
  have ec := fun i hi => ep_cut hid P hP.2 i hi
  have sd := fun i hi => sec_cut hid P (by omega) i hi []
  have sf := sec_foot hid P (by omega) []
  rw [List.append_nil] at sf
  simp only [List.append_nil] at sd
  have gd : ∀ i, i < nsec P → prtGet (((cutOf (e : Int) ((Ps.length : Nat) : Int) P).drop (128 * i)).take 128) = some (prtOf (e : Int) ((Ps.length : Nat) : Int) P i) := fun i hi => by
    rw [sd i hi]
    exact get_prt _ (prtOf_right hid P i (by omega))
  have gf : prtGet (((cutOf (e : Int) ((Ps.length : Nat) : Int) P).drop (128 * nsec P)).take 128) = some (ftOf (e : Int) ((Ps.length : Nat) : Int) P (nsec P)) := by
    rw [sf]
    exact get_prt _ (ftOf_right hid P _ (by omega))
  have cl : ∀ i, i ≤ nsec P → (((cutOf (e : Int) ((Ps.length : Nat) : Int) P).drop (128 * i)).take 128).length = 128 := fun i hi => by
    rw [List.length_take, List.length_drop, hL]; omega
  have ol : ∀ i, (rsec s fr k st i).length = 128 := fun i => length_seeAt ok _ (by have := Nat.mod_lt (st + i) hk; omega)
  have shift : ∀ (t : Dk) u i, rsec t fr k (st + u) i = rsec t fr k st (u + i) := fun t u i => by unfold rsec; rw [Nat.add_assoc]
  -- what any sector of the rest may be
  have each : ∀ i, i < k → epOf (rsec s' fr k st i) ≤ e := fun i hi => by
    by_cases h1 : i < jtot Ps ∨ jtot Ps + nsec P < i
    · rw [hsame i hi h1]
      exact rsec_low h hk st i
    · have tw : ∀ j, j ≤ nsec P → Tw (rsec s fr k st (jtot Ps + j)) (((cutOf (e : Int) ((Ps.length : Nat) : Int) P).drop (128 * j)).take 128) (rsec s' fr k st (jtot Ps + j)) := fun j hj => by
        by_cases hj2 : j < nsec P
        · exact hdata j hj2
        · rw [show j = nsec P by omega]; exact hfoot
      have t := tw (i - jtot Ps) (by omega)
      rw [show jtot Ps + (i - jtot Ps) = i by omega] at t
      rcases t with t | t | ⟨c, c1, c2, t⟩
      · rw [t]; exact rsec_low h hk st i
      · rw [t, ec _ (by omega)]; exact Nat.le_refl _
      · rw [t]
        exact ep_torn (ol i) (cl _ (by omega)) e he (rsec_low h hk st i) (Nat.le_of_eq (ec _ (by omega))) c c1
  have low : ∀ a, a < k → epOf (seeAt s' (fr + a)) ≤ e := fun a ha => by
    obtain ⟨i, hi, e1⟩ : ∃ i, i < k ∧ a = (st + i) % k := by
      have hm := Nat.mod_lt st hk
      have hd := Nat.div_add_mod st k
      by_cases h1 : st % k ≤ a
      · refine ⟨a - st % k, by omega, ?_⟩
        rw [← Nat.mod_add_mod, show st % k + (a - st % k) = a by omega, Nat.mod_eq_of_lt ha]
      · refine ⟨a + k - st % k, by omega, ?_⟩
        rw [← Nat.mod_add_mod, show st % k + (a + k - st % k) = a + k by omega, Nat.add_mod_right, Nat.mod_eq_of_lt ha]
    rw [e1]
    exact each i hi
  have pre : rall s' fr k st (jtot Ps) = jcuts e 0 Ps := by
    rw [← h.cut]
    unfold rall
    refine fm_congr fun i hi => ?_
    rw [List.mem_range] at hi
    exact hsame i (by omega) (.inl hi)
  have foreign : ∀ i, jtot Ps ≤ i → i < k → ∀ p, prtGet (rsec s fr k st i) = some p → p.epoch ≠ (e : Int) := fun i h1 h2 p hp z => by
    have h3 := prtGet_ep hp
    exact hcl i h1 h2 (by omega)
  have stopA : rsec s' fr k st (jtot Ps + nsec P) = rsec s fr k st (jtot Ps + nsec P) → Cont s' fr k st e Ps := fun hA => by
    refine ⟨h.pays, h.fit, pre, ?_, low⟩
    rw [join_nofoot]
    intro i hi p hp
    have hl := length_rall ok' fr k (st + jtot Ps) hk hf' (k - jtot Ps)
    rw [rall_sec ok' fr k (st + jtot Ps) hk hf' (k - jtot Ps) i (by omega), shift] at hp
    by_cases h1 : i < nsec P
    · rcases hdata i h1 with t | t | ⟨c, c1, c2, t⟩
      · rw [t] at hp
        exact .inl (foreign _ (by omega) (by omega) p hp)
      · rw [t, gd i h1] at hp
        injection hp with hp
        rw [← hp]
        exact .inr rfl
      · rw [t] at hp
        exact .inr (foot_first (gd i h1) hp (first_torn (cl i (by omega)) c c1))
    · by_cases h2 : i = nsec P
      · rw [h2, hA] at hp
        exact .inl (foreign _ (by omega) (by omega) p hp)
      · rw [hsame _ (by omega) (.inr (by omega))] at hp
        exact .inl (foreign _ (by omega) (by omega) p hp)
  rcases hor with hA | hB
  · exact .inl (stopA hA)
  have okB : rsec s' fr k st (jtot Ps + nsec P) = ((cutOf (e : Int) ((Ps.length : Nat) : Int) P).drop (128 * nsec P)).take 128 → Cont s' fr k st e (Ps ++ [P]) := fun t => by
    have hcs : jcuts e 0 (Ps ++ [P]) = jcuts e 0 Ps ++ cutOf (e : Int) ((Ps.length : Nat) : Int) P := by rw [jcuts_snoc, Nat.zero_add]
    have ht := jtot_snoc P Ps
    have cl2 : Clean s' fr k st e (jtot (Ps ++ [P])) := fun i h1 h2 => by
      rw [hsame i h2 (.inr (by omega))]
      exact hcl i (by omega) h2
    refine ⟨?_, by omega, ?_, clean_stop ok' hk hf' (by omega) cl2 _, low⟩
    · intro Q hQ
      rw [List.mem_append, List.mem_singleton] at hQ
      rcases hQ with hQ | rfl
      · exact h.pays Q hQ
      · exact hP
    · have new : rall s' fr k (st + jtot Ps) (nsec P + 1) = cutOf (e : Int) ((Ps.length : Nat) : Int) P := by
        have e1 : rall s' fr k (st + jtot Ps) (nsec P + 1) = (List.range (nsec P + 1)).flatMap (fun i => ((cutOf (e : Int) ((Ps.length : Nat) : Int) P).drop (128 * i)).take 128) := by
          unfold rall
          refine fm_congr fun i hi => ?_
          rw [List.mem_range] at hi
          rw [shift]
          by_cases h1 : i < nsec P
          · exact hB i h1
          · rw [show i = nsec P by omega]; exact t
        rw [e1, secs_of, List.take_of_length_le (by omega)]
      rw [ht, rall_add, pre, new, hcs]
  rcases hfoot with hA | t | ⟨c, c1, c2, t⟩
  · exact .inl (stopA hA)
  · exact .inr (okB t)
  · by_cases hy : rsec s' fr k st (jtot Ps + nsec P) = ((cutOf (e : Int) ((Ps.length : Nat) : Int) P).drop (128 * nsec P)).take 128
    · exact .inr (okB hy)
    · left
      refine ⟨h.pays, h.fit, pre, ?_, low⟩
      have hl := length_rall ok' fr k (st + jtot Ps) hk hf' (k - jtot Ps)
      have rs := fun i hi => rall_sec ok' fr k (st + jtot Ps) hk hf' (k - jtot Ps) i hi
      rw [join_torn hid P hP _ (by omega) (fun i hi => by rw [rs i (by omega), shift, hB i hi, sd i hi]) (by rw [rs _ (by omega), shift, ← sf]; exact hy) (fun p hp => .inr (by
        rw [rs _ (by omega), shift, t] at hp
        exact foot_first gf hp (first_torn (cl _ (Nat.le_refl _)) c c1)))]
end Go.Proofs.Ytgpnmmgoachajaa
