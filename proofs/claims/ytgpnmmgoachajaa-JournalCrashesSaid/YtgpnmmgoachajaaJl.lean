/- A journal whose power is on, with what its ring has; the walk of JournalElder. -/
import Derived.Test.YtgpnmmgoachajaaJk
import Derived.Test.YtgpnmmgoachajaaJf
namespace Go.Proofs.Ytgpnmmgoachajaa
open Go.RowKit Go.Shelf
open Go.Proofs

structure JRun (s : Dk) (j : Jn) (size fr k t st : Nat) (Ps : List (List UInt8)) : Prop where
  good : JGood s j size fr k t
  cont : Cont s fr k st j.epoch Ps
  clean : Clean s fr k st j.epoch (jtot Ps)
  used : j.used = jtot Ps
  cnt : j.count = Ps.length
  plc : j.place = (st + jtot Ps) % k
section
variable {s : Dk} {j : Jn} {size fr k t st : Nat} {Ps : List (List UInt8)}
theorem JRun.append (h : JRun s j size fr k t st Ps) (ht : t ≤ 1000) (he : j.epoch ≤ 2147483648) (hk : 0 < k) (hsz : fr + k ≤ size) (ok : DkOk s) (P : List UInt8) (hP : Pay P) (hf : secs (P.length : Int) ≤ ((j.n - j.used : Nat) : Int))
    (ok' : DkOk (jAppend s j P).1) : JRun (jAppend s j P).1 (jAppend s j P).2.1 size fr k (t + 1) st (Ps ++ [P]) ∧ (jAppend s j P).2.2 = 0 ∧ (jAppend s j P).2.1 = jStep j (nsec P + 1) := by
  have g := h.good
  have h1 := g.n
  have h2 := g.fr
  have h3 := h.used
  have h4 := h.cnt
  have h5 := h.plc
  have h6 := g.safe
  have h7 := g.count
  have h8 := g.epoch
  have hs := secs_nsec P hP.1 hP.2
  have e := g.appends P hP.1 hP.2 hf
  have nx := g.next ht he P hP.1 hP.2 hf
  have hid : idRight (j.epoch : Int) ((Ps.length : Nat) : Int) := ⟨by omega, by omega, by omega, by omega⟩
  rw [e] at ok' ⊢
  dsimp only at ok' ⊢
  have ns := nx.safe
  rw [h1, h2, h4, h5] at nx ok' ns ⊢
  obtain ⟨c1, c2⟩ := h.cont.append h.clean g.calls ok hk (by omega) P hP hid (by omega) ok' (by rw [ns, h6])
  have ht2 := jtot_snoc P Ps
  refine ⟨⟨nx, c1, c2, ?_, ?_, ?_⟩, rfl, rfl⟩
  · show j.used + (nsec P + 1) = _
    omega
  · show j.count + 1 = (Ps ++ [P]).length
    rw [List.length_append, h4]
    rfl
  · show (j.place + (nsec P + 1)) % j.n = _
    rw [h5, h1, Nat.mod_add_mod, ht2, Nat.add_assoc]
theorem JRun.reset (h : JRun s j size fr k t st Ps) (hk : 0 < k) (hsz : fr + k ≤ size) (ok : DkOk s) : JRun s (jReset j) size fr k t j.place [] := by
  have g := h.good
  obtain ⟨c1, c2⟩ := h.cont.reset ok hk (by have := g.safe; omega) j.place
  have hp := g.place
  exact ⟨⟨g.safe, g.calls, g.queue, g.writes, g.fr, g.n, Nat.le_add_left _ _, Nat.zero_le _, Nat.zero_le _, g.place, g.dead, rfl⟩, c1, c2, rfl, rfl, by show j.place = (j.place + 0) % k; rw [Nat.add_zero, Nat.mod_eq_of_lt hp]⟩
theorem JRun.more (h : JRun s j size fr k t st Ps) {t' : Nat} (ht : t ≤ t') : JRun s j size fr k t' st Ps := ⟨h.good.more ht, h.cont, h.clean, h.used, h.cnt, h.plc⟩
theorem jrun_new (size fr k e st : Nat) (he : 1 ≤ e) (hk : 0 < k) (hs : st < k) (hsz : fr + k ≤ size) : JRun (dkNew size) (jNew fr k e st) size fr k 0 st [] := by
  obtain ⟨c1, c2⟩ := cont_new size fr k st e he hk hsz
  exact ⟨jgood_new size fr k e st he hs, c1, c2, rfl, rfl, by show st = (st + 0) % k; rw [Nat.add_zero, Nat.mod_eq_of_lt hs]⟩
/-- One Append of it: either it fits or nothing is changed. -/
theorem jrun_append {K : Nat → Prop} {w : World} {p y : Nat} (r : JRun s j size fr k t st Ps) (ht : t ≤ 1000) (he : j.epoch ≤ 2147483648) (hk : 1 ≤ k ∧ k ≤ 4096) (hsz : fr + k ≤ size) (h : Disk K w p s) (hj : JnAt w y p j) (ky : K y) (A : Option Addr) (l : List UInt8) (m c : Nat) (hl : l.length = m) (hm1 : 1 ≤ m) (hm : m ≤ 65000) (hc : m ≤ c) (hx : Octs w A l) (hKb : ∀ b, K b → b < w.heap.size) :
    Calls Try.prog 38 #[.pointer (some ⟨y, 0, none⟩), .slice A m c] w fun e w' => ∃ s' j' Ps', e = .returned (.int .i64 (if secs (m : Int) ≤ ((j.n - j.used : Nat) : Int) then 0 else 11)) ∧ Disk K w' p s' ∧ JnAt w' y p j' ∧ JRun s' j' size fr k (t + 1) st Ps' ∧ j'.epoch = j.epoch ∧ (if secs (m : Int) ≤ ((j.n - j.used : Nat) : Int) then Ps' = Ps ++ [l] else Ps' = Ps ∧ s' = s ∧ j' = j) ∧ Upd (fun b => ¬ K b ∨ b = y) w w' := by
  have ok : DkOk s := h.choose_spec.choose_spec.choose_spec.1.ok
  refine (good_append r.good ht he hk hsz h hj ky A l m c hl hm hc hx hKb).mono ?_
  rintro e w' ⟨rfl, h1, h2, h3⟩
  have ok' : DkOk (jAppend s j l).1 := h1.choose_spec.choose_spec.choose_spec.1.ok
  by_cases hf : secs (m : Int) ≤ ((j.n - j.used : Nat) : Int)
  · obtain ⟨a1, a2, a3⟩ := r.append ht he (by omega) hsz ok l ⟨by omega, by omega⟩ (by rw [hl]; exact hf) ok'
    refine ⟨_, _, _, ?_, h1, h2, a1, by rw [a3]; rfl, ?_, h3⟩
    · rw [a2, if_pos hf]; rfl
    · rw [if_pos hf]
  · have hs := secs_nsec l (by omega) (by omega)
    have e := r.good.space l (by rw [hs]; omega) (by rw [hl]; omega)
    rw [e] at h1 h2 ⊢
    refine ⟨s, j, Ps, ?_, h1, h2, r.more (by omega), rfl, ?_, h3⟩
    · rw [if_neg hf]; rfl
    · rw [if_neg hf]; exact ⟨rfl, rfl, rfl⟩
end
end Go.Proofs.Ytgpnmmgoachajaa
