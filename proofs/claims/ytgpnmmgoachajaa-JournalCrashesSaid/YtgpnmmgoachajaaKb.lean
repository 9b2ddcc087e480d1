/- What JournalCrashes holds from act to act. -/
import Derived.Test.YtgpnmmgoachajaaKa
import Derived.Test.YtgpnmmgoachajaaJk
namespace Go.Proofs.Ytgpnmmgoachajaa
open Go.RowKit
open Go.Proofs

structure JBase (s : Dk) (j : Jn) (size fr k t e : Nat) : Prop where
  safe : s.safe.length = size
  writes : 0 ≤ s.writes ∧ s.writes ≤ ((t * 200000 : Nat) : Int)
  qlen : s.queue.length ≤ 200000
  fr : j.fr = fr
  n : j.n = k
  ep : j.epoch = e
  e1 : 1 ≤ e
  e2 : e ≤ t + 1
  count : j.count ≤ k
  used : j.used ≤ k
  place : j.place < k
structure Alive (s : Dk) (j : Jn) (size fr k t e st : Nat) (Ps : List (List UInt8)) : Prop where
  base : JBase s j size fr k t e
  ok : DkOk s
  dead : j.dead = false
  queue : s.queue = []
  cont : Cont s fr k st e Ps
  clean : j.dirty = false → Clean s fr k st e (jtot Ps)
  used : j.used = jtot Ps
  cnt : j.count = Ps.length
  plc : j.place = (st + jtot Ps) % k
structure Dying (s : Dk) (j : Jn) (size fr k t e st : Nat) (Ps : List (List UInt8)) (U : List UInt8) : Prop where
  base : JBase s j size fr k t e
  ok : DkOk s
  dead : j.dead = true
  pay : Pay U
  crash : ∀ keep torn cut, Cont (dkCrash s keep torn cut) fr k st e Ps ∨ Cont (dkCrash s keep torn cut) fr k st e (Ps ++ [U])
def JSt (s : Dk) (j : Jn) (size fr k t e st : Nat) (Ps : List (List UInt8)) (U : List UInt8) : Prop := (Alive s j size fr k t e st Ps ∧ U = []) ∨ Dying s j size fr k t e st Ps U
section
variable {s : Dk} {j : Jn} {size fr k t e st : Nat} {Ps : List (List UInt8)} {U : List UInt8}
theorem JBase.more (h : JBase s j size fr k t e) : JBase s j size fr k (t + 1) e := by
  obtain ⟨h1, h2, h3, h4, h5, h6, h7, h8, h9, h10, h11⟩ := h
  exact ⟨h1, ⟨h2.1, by omega⟩, h3, h4, h5, h6, h7, by omega, h9, h10, h11⟩
theorem JSt.base (h : JSt s j size fr k t e st Ps U) : JBase s j size fr k t e := h.elim (·.1.base) (·.base)
theorem JSt.more (h : JSt s j size fr k t e st Ps U) : JSt s j size fr k (t + 1) e st Ps U := by
  rcases h with ⟨⟨a, b, c, d, e', f, g, i, l⟩, z⟩ | ⟨a, b, c, d, e'⟩
  · exact .inl ⟨⟨a.more, b, c, d, e', f, g, i, l⟩, z⟩
  · exact .inr ⟨a.more, b, c, d, e'⟩
theorem cont_see {s' : Dk} (h : Cont s fr k st e Ps) (hs : ∀ a, seeAt s' a = seeAt s a) : Cont s' fr k st e Ps := by
  have hr : ∀ t n, rall s' fr k t n = rall s fr k t n := fun t n => by
    unfold rall
    exact fm_congr fun i _ => hs _
  exact ⟨h.pays, h.fit, by rw [hr]; exact h.cut, by rw [hr]; exact h.stop, fun a ha => by rw [hs]; exact h.low a ha⟩
theorem clean_see {s' : Dk} {u : Nat} (h : Clean s fr k st e u) (hs : ∀ a, seeAt s' a = seeAt s a) : Clean s' fr k st e u := fun i h1 h2 => by
  show epOf (seeAt s' _) ≠ e
  rw [hs]
  exact h i h1 h2
/-- The power's limit is nothing to what it has. -/
theorem JSt.limit (h : JSt s j size fr k t e st Ps U) (c : Int) : JSt { s with calls := c } j size fr k t e st Ps U := by
  have hb := h.base
  have hb' : JBase { s with calls := c } j size fr k t e := ⟨hb.safe, hb.writes, hb.qlen, hb.fr, hb.n, hb.ep, hb.e1, hb.e2, hb.count, hb.used, hb.place⟩
  rcases h with ⟨h, z⟩ | h
  · exact .inl ⟨⟨hb', ⟨h.ok.safe, h.ok.queue⟩, h.dead, h.queue, cont_see h.cont (fun _ => rfl), fun d => clean_see (h.clean d) (fun _ => rfl), h.used, h.cnt, h.plc⟩, z⟩
  · exact .inr ⟨hb', ⟨h.ok.safe, h.ok.queue⟩, h.dead, h.pay, fun k t c => h.crash k t c⟩
/-- A new epoch. -/
theorem JSt.reset (h : JSt s j size fr k t e st Ps U) (hk : 0 < k) (hf : fr + k ≤ size) (hd : j.dead = false) : JSt s (jReset j) size fr k (t + 1) (e + 1) j.place [] U := by
  rcases h with ⟨h, z⟩ | h
  · have hb := h.base
    obtain ⟨c1, c2⟩ := h.cont.reset h.ok hk (by rw [hb.safe]; exact hf) j.place
    have hb' : JBase s (jReset j) size fr k (t + 1) (e + 1) := ⟨hb.safe, hb.more.writes, hb.qlen, hb.fr, hb.n, by show j.epoch + 1 = e + 1; rw [hb.ep], by omega, by have := hb.e2; omega, Nat.zero_le _, Nat.zero_le _, hb.place⟩
    exact .inl ⟨⟨hb', h.ok, h.dead, h.queue, c1, fun _ => c2, rfl, rfl, by show j.place = (j.place + 0) % k; rw [Nat.add_zero, Nat.mod_eq_of_lt hb.place]⟩, z⟩
  · have := h.dead
    rw [hd] at this
    cases this
/-- Behind a crash it is opened. -/
theorem JSt.opens (h : JSt s j size fr k t e st Ps U) (hk : 0 < k) (hf : fr + k ≤ size) (hk2 : k ≤ 4096) (he : e ≤ 2147483648) (keep : List Int) (torn cut : Int) :
    ∃ Ps', (Ps' = Ps ∨ (Ps' = Ps ++ [U])) ∧ Cont (dkCrash s keep torn cut) fr k st e Ps' ∧ opn (k + 1) (rall (dkCrash s keep torn cut) fr k st k) e 0 = (Ps', jtot Ps') ∧
      JSt (dkCrash s keep torn cut) (jOpen (dkCrash s keep torn cut) fr k e st) size fr k t e st Ps' [] := by
  have hb := h.base
  have ok : DkOk s := h.elim (·.1.ok) (·.ok)
  have ok' := dkOk_crash ok keep torn cut
  have sl : (dkCrash s keep torn cut).safe.length = size := by
    show (crashTo keep torn cut 0 s.safe s.queue).1.length = size
    rw [length_crashTo, hb.safe]
  have hc : ∃ Ps', (Ps' = Ps ∨ Ps' = Ps ++ [U]) ∧ Cont (dkCrash s keep torn cut) fr k st e Ps' := by
    rcases h with ⟨h, z⟩ | h
    · refine ⟨Ps, .inl rfl, cont_see h.cont fun a => ?_⟩
      rw [see_crash_eq, h.queue, see_no_queue h.queue]
      rfl
    · rcases h.crash keep torn cut with c | c
      · exact ⟨_, .inl rfl, c⟩
      · exact ⟨_, .inr rfl, c⟩
  obtain ⟨Ps', h1, h2⟩ := hc
  have hfit := h2.fit
  have hge := jtot_ge Ps'
  have ho := h2.opens ⟨hb.e1, he⟩ (by omega) (k + 1) (by omega)
  refine ⟨Ps', h1, h2, ho, .inl ⟨⟨⟨sl, hb.writes, Nat.zero_le _, rfl, rfl, rfl, hb.e1, hb.e2, ?_, ?_, ?_⟩, ok', rfl, rfl, h2, fun hd => ?_, ?_, ?_, ?_⟩, rfl⟩⟩
  · show (opn (k + 1) _ e 0).1.length ≤ k
    rw [ho]
    show Ps'.length ≤ k
    omega
  · show (opn (k + 1) _ e 0).2 ≤ k
    rw [ho]
    exact hfit
  · exact Nat.mod_lt _ hk
  · have hd2 : stain ((rall (dkCrash s keep torn cut) fr k st k).drop (128 * (opn (k + 1) (rall (dkCrash s keep torn cut) fr k st k) e 0).2)) e (k - (opn (k + 1) (rall (dkCrash s keep torn cut) fr k st k) e 0).2) = false := hd
    rw [ho] at hd2
    dsimp only at hd2
    unfold stain at hd2
    rw [List.any_eq_false] at hd2
    intro i h3 h4
    have := hd2 (i - jtot Ps') (by rw [List.mem_range]; omega)
    unfold secAt at this
    rw [List.drop_drop, ← Nat.mul_add, show jtot Ps' + (i - jtot Ps') = i by omega, rall_sec ok' fr k st hk (by rw [sl]; exact hf) k i h4] at this
    intro z
    rw [z] at this
    simp at this
  · show (opn (k + 1) _ e 0).2 = _
    rw [ho]
  · show (opn (k + 1) _ e 0).1.length = _
    rw [ho]
  · show (st + (opn (k + 1) _ e 0).2) % k = _
    rw [ho]
set_option maxRecDepth 100000 in
theorem japp_inv (s : Dk) (fr k pl : Nat) (l : List UInt8) : (jApp s fr k pl l).1.safe.length = s.safe.length ∧ (s.writes ≤ (jApp s fr k pl l).1.writes ∧ (jApp s fr k pl l).1.writes ≤ s.writes + ((2 * l.length : Nat) : Int)) ∧ (jApp s fr k pl l).1.queue.length ≤ s.queue.length + 2 * l.length := by
  obtain ⟨a1, a2, a3, _⟩ := rg_inv s fr k pl (l.take (l.length - 128))
  rw [List.length_take] at a2 a3
  have q1 : (dkFlush (rgWrite s fr k pl (l.take (l.length - 128))).1).safe.length = s.safe.length := by rw [← a1]; exact length_putAll _ _
  have q2 : (dkFlush (rgWrite s fr k pl (l.take (l.length - 128))).1).writes = (rgWrite s fr k pl (l.take (l.length - 128))).1.writes := rfl
  have q3 : (dkFlush (rgWrite s fr k pl (l.take (l.length - 128))).1).queue.length = 0 := rfl
  obtain ⟨b1, b2, b3, _⟩ := rg_inv (dkFlush (rgWrite s fr k pl (l.take (l.length - 128))).1) fr k ((pl + (l.length - 128) / 128) % k) (l.drop (l.length - 128))
  rw [List.length_drop] at b2 b3
  unfold jApp
  generalize rgWrite s fr k pl (l.take (l.length - 128)) = R1 at *
  generalize rgWrite (dkFlush R1.1) fr k ((pl + (l.length - 128) / 128) % k) (l.drop (l.length - 128)) = R2 at *
  have c1 : (dkFlush R2.1).safe.length = R2.1.safe.length := length_putAll _ _
  have c2 : (dkFlush R2.1).writes = R2.1.writes := rfl
  have c3 : (dkFlush R2.1).queue.length = 0 := rfl
  split
  · exact ⟨a1, by omega, by omega⟩
  · split
    · exact ⟨a1, by dsimp only; omega, by dsimp only; omega⟩
    · split
      · exact ⟨by omega, by omega, by omega⟩
      · dsimp only
        split
        · exact ⟨by omega, by omega, by omega⟩
        · exact ⟨by omega, by omega, by omega⟩
set_option maxRecDepth 100000 in
theorem japp_err (s : Dk) (fr k pl : Nat) (l : List UInt8) : (jApp s fr k pl l).2 = 0 ∨ (jApp s fr k pl l).2 = 10 := by
  unfold jApp
  split
  · exact (rg_inv s fr k pl (l.take (l.length - 128))).2.2.2
  · split
    · exact .inr rfl
    · split
      · exact (rg_inv _ fr k _ _).2.2.2
      · exact (dkE_or _).imp (·.1) (·.1)
set_option maxRecDepth 100000 in
/-- An append, whatever comes of it. -/
theorem JSt.append (h : JSt s j size fr k t e st Ps U) (hk : 0 < k) (hk2 : k ≤ 4096) (hf : fr + k ≤ size) (he : e < 256) (l : List UInt8) (hl : l.length ≤ 1500) (ok' : DkOk (jAppend s j l).1) :
    JSt (jAppend s j l).1 (jAppend s j l).2.1 size fr k (t + 1) e st (if (jAppend s j l).2.2 = 0 then Ps ++ [l] else Ps) (if (jAppend s j l).2.2 ≠ 0 ∧ (jAppend s j l).2.2 = 10 ∧ U = [] then l else U) := by
  have hb := h.base
  rcases h with ⟨h, rfl⟩ | h
  · have hcnt := h.cnt
    have huse := h.used
    have hge := jtot_ge Ps
    have hfit := h.cont.fit
    have hid : idRight (j.epoch : Int) (j.count : Int) := ⟨by have := hb.e1; rw [hb.ep]; omega, by rw [hb.ep]; omega, by omega, by omega⟩
    by_cases hd : j.dirty = true
    · have e0 : jAppend s j l = (s, j, 19) := by unfold jAppend; rw [h.dead, if_neg (by decide), if_pos hd]
      rw [e0]
      dsimp only
      rw [if_neg (by decide), if_neg (by omega)]
      exact JSt.more (.inl ⟨h, rfl⟩)
    have hd : j.dirty = false := by cases e : j.dirty; rfl; exact absurd e hd
    by_cases h0 : secs (l.length : Int) = 0
    · have e0 : jAppend s j l = (s, j, 2) := by unfold jAppend; rw [h.dead, if_neg (by decide), hd, if_neg (by decide), if_pos h0]
      rw [e0]
      dsimp only
      rw [if_neg (by decide), if_neg (by omega)]
      exact JSt.more (.inl ⟨h, rfl⟩)
    have l1 : 1 ≤ l.length := by
      unfold secs at h0
      by_cases z : (l.length : Int) < 1
      · rw [if_pos (.inl z)] at h0; exact absurd rfl h0
      · omega
    have hP : Pay l := ⟨l1, by omega⟩
    have hs := secs_nsec l l1 (by omega)
    by_cases h1 : ((j.n - j.used : Nat) : Int) < secs (l.length : Int)
    · have e0 : jAppend s j l = (s, j, 11) := by unfold jAppend; rw [h.dead, if_neg (by decide), hd, if_neg (by decide), if_neg h0, if_pos h1]
      rw [e0]
      dsimp only
      rw [if_neg (by decide), if_neg (by omega)]
      exact JSt.more (.inl ⟨h, rfl⟩)
    have hn := hb.n
    have hfr := hb.fr
    have hpl := h.plc
    have hep := hb.ep
    have hsf := hb.safe
    have hq : jtot Ps + (nsec l + 1) ≤ k := by omega
    have hL := length_cutOf hid l (by have := nsec_le l (by omega); omega)
    have hn2 : nsec l ≤ 14 := by unfold nsec; omega
    have e0 : jAppend s j l = (if (jApp s j.fr j.n j.place (cutOf (j.epoch : Int) (j.count : Int) l)).2 ≠ 0 then ((jApp s j.fr j.n j.place (cutOf (j.epoch : Int) (j.count : Int) l)).1, { j with dead := true }, (jApp s j.fr j.n j.place (cutOf (j.epoch : Int) (j.count : Int) l)).2)
        else ((jApp s j.fr j.n j.place (cutOf (j.epoch : Int) (j.count : Int) l)).1, jStep j (nsec l + 1), 0)) := by
      unfold jAppend
      rw [h.dead, if_neg (by decide), hd, if_neg (by decide), if_neg h0, if_neg h1]
    rw [e0] at ok' ⊢
    rw [hfr, hn, hep, hpl, hcnt] at ok' ⊢
    rw [hep, hcnt] at hL hid
    have iv := japp_inv s fr k ((st + jtot Ps) % k) (cutOf (e : Int) ((Ps.length : Nat) : Int) l)
    rw [hL] at iv
    obtain ⟨iv1, iv2, iv3⟩ := iv
    have hwr := hb.writes
    have hql : s.queue.length = 0 := by rw [h.queue]; rfl
    have hcl := h.clean hd
    have he2 := hb.e2
    have he1 := hb.e1
    by_cases hz : (jApp s fr k ((st + jtot Ps) % k) (cutOf (e : Int) ((Ps.length : Nat) : Int) l)).2 = 0
    · rw [if_neg (not_not_intro hz)] at ok' ⊢
      dsimp only at ok' ⊢
      rw [if_pos rfl, if_neg (by omega)]
      have hon : SameD s { s with calls := -1 } := ⟨rfl, rfl⟩
      have sm := japp_same (fr := fr) (k := k) (pl := (st + jtot Ps) % k) (l := cutOf (e : Int) ((Ps.length : Nat) : Int) l) hon hz rfl
      have okn : DkOk { s with calls := -1 } := ⟨h.ok.safe, h.ok.queue⟩
      have okn' : DkOk (jApp { s with calls := -1 } fr k ((st + jtot Ps) % k) (cutOf (e : Int) ((Ps.length : Nat) : Int) l)).1 := ⟨by rw [← sm.1]; exact ok'.safe, by rw [← sm.2, ← sm.1]; exact ok'.queue⟩
      obtain ⟨c1, c2⟩ := Cont.append (s := { s with calls := -1 }) (cont_see h.cont (fun _ => rfl)) (clean_see hcl (fun _ => rfl)) rfl okn hk (by show fr + k ≤ s.safe.length; omega) l hP hid hq okn' (by rw [← sm.1, iv1])
      have qz : (jApp s fr k ((st + jtot Ps) % k) (cutOf (e : Int) ((Ps.length : Nat) : Int) l)).1.queue = [] := by
        rw [sm.2, japp_on _ rfl]
        rfl
      generalize (jApp s fr k ((st + jtot Ps) % k) (cutOf (e : Int) ((Ps.length : Nat) : Int) l)).1 = s' at *
      have ht := jtot_snoc l Ps
      have hlt := Nat.mod_lt (j.place + (nsec l + 1)) hk
      refine .inl ⟨⟨⟨by rw [iv1, hsf], ⟨by omega, by omega⟩, by rw [qz]; exact Nat.zero_le _, hfr, hn, hep, he1, by omega, ?_, ?_, ?_⟩, ok', h.dead, qz, cont_see c1 (fun a => sm.see a), fun _ => clean_see c2 (fun a => sm.see a), ?_, ?_, ?_⟩, rfl⟩
      · show j.count + 1 ≤ k
        omega
      · show j.used + (nsec l + 1) ≤ k
        omega
      · show (j.place + (nsec l + 1)) % j.n < k
        rw [hn]
        exact hlt
      · show j.used + (nsec l + 1) = _
        omega
      · show j.count + 1 = (Ps ++ [l]).length
        rw [List.length_append, hcnt]
        rfl
      · show (j.place + (nsec l + 1)) % j.n = _
        rw [hpl, hn, Nat.mod_add_mod, ht, Nat.add_assoc]
    · rw [if_pos hz] at ok' ⊢
      dsimp only at ok' ⊢
      have h10 : (jApp s fr k ((st + jtot Ps) % k) (cutOf (e : Int) ((Ps.length : Nat) : Int) l)).2 = 10 := (japp_err s fr k _ _).resolve_left hz
      rw [if_neg hz, if_pos ⟨hz, h10, rfl⟩]
      have hm := Nat.mod_lt (st + jtot Ps) hk
      refine .inr ⟨⟨by rw [iv1, hsf], ⟨by omega, by omega⟩, by omega, rfl, rfl, rfl, he1, by omega, (show Ps.length ≤ k by omega), hb.used, hm⟩, ok', rfl, hP, fun keep torn cut => ?_⟩
      obtain ⟨a1, a2, a3, a4, _⟩ := app_crash (fr := fr) h.queue h.ok hm hL (by omega) (by omega) hz keep torn cut
      have conv : ∀ (x : Dk) i, seeAt x (fr + ((st + jtot Ps) % k + i) % k) = rsec x fr k st (jtot Ps + i) := fun x i => by unfold rsec; rw [Nat.mod_add_mod, Nat.add_assoc]
      simp only [conv] at a1 a2 a3 a4
      refine after_crash h.cont hcl h.ok (dkOk_crash ok' keep torn cut) hk (by omega) ?_ he l hP hid hq (fun i hi h2 => ?_) a2 a3 a4
      · show fr + k ≤ (crashTo keep torn cut 0 _ _).1.length
        rw [length_crashTo, iv1]
        omega
      · rcases h2 with h2 | h2
        · have e1 : ∀ x : Dk, rsec x fr k st i = rsec x fr k st (jtot Ps + (k - jtot Ps + i)) := fun x => by
            unfold rsec
            rw [show st + (jtot Ps + (k - jtot Ps + i)) = st + i + k by omega, Nat.add_mod_right]
          rw [e1, e1]
          exact a1 _ (by omega) (by omega)
        · have := a1 (i - jtot Ps) (by omega) (by omega)
          rw [show jtot Ps + (i - jtot Ps) = i by omega] at this
          exact this
  · have e0 : jAppend s j l = (s, j, 10) := by unfold jAppend; rw [if_pos h.dead]
    have hU : U ≠ [] := fun z => by have := h.pay.1; rw [z] at this; exact absurd this (by decide)
    rw [e0]
    dsimp only
    rw [if_neg (by decide), if_neg (fun z => hU z.2.2)]
    exact JSt.more (.inr h)
end
end Go.Proofs.Ytgpnmmgoachajaa
