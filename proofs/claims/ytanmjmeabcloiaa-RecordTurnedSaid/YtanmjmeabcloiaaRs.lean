/- Layer 6: how many sectors a transaction has (as in RecordSectors), the law's example, and which parts are the same. -/
import Derived.Test.YtanmjmeabcloiaaRq
namespace Go.Proofs.Ytanmjmeabcloiaa
open Go.RowKit
open Go.Proofs

def secs (n : Int) : Int := if n < 1 ∨ 65000 < n then 0 else (n + 111) / 112 + 1

theorem secs_range (n : Int) : 0 ≤ secs n ∧ secs n ≤ 582 := by unfold secs; split <;> omega
theorem secs_step (n : Int) (h1 : 1 ≤ n) (h2 : n < 65000) : secs n ≤ secs (n + 1) ∧ secs (n + 1) ≤ secs n + 1 := by
  unfold secs
  rw [if_neg (by omega), if_neg (by omega)]
  omega

set_option maxRecDepth 100000 in
theorem sec_any (n : Int) (w : World) (h1 : -9223372036854775808 ≤ n) (h2 : n ≤ 9223372036854775807) :
    Calls Try.prog 33 #[.int .i64 n] w fun e w' => e = .returned (.int .i64 (secs n)) ∧ w = w' := by
  unfold secs
  by_cases a : n < 1
  · rw [if_pos (.inl a)]
    go_enter Try.func33, Try.ntmps33
    go_wp2
    go_ret
    exact ⟨rfl, rfl⟩
  · by_cases b : 65000 < n
    · rw [if_pos (.inr b)]
      go_enter Try.func33, Try.ntmps33
      go_wp2
      go_ret
      exact ⟨rfl, rfl⟩
    · rw [if_neg (by omega)]
      go_enter Try.func33, Try.ntmps33
      go_wp2
      go_ret
      exact ⟨ret_int (by omega), rfl⟩


set_option maxRecDepth 100000 in
theorem awake06_any (w : World) : Calls Try.prog 12 #[] w fun e w' => e = .returned (.bool true) ∧ w = w' := by
  go_enter Try.func12, Try.ntmps12
  go_wp2
  go_ret
  exact ⟨rfl, rfl⟩


set_option maxRecDepth 100000 in
theorem rsec_any (n : Int) (w : World) (h1 : -9223372036854775808 ≤ n) (h2 : n ≤ 9223372036854775807) :
    Calls Try.prog 53 #[.int .i64 n] w fun e w' => e = .returned (.int .i64 (secs n)) ∧ w = w' := by
  unfold secs
  by_cases a : n < 1
  · rw [if_pos (.inl a)]
    go_enter Try.func53, Try.ntmps53
    go_wp2
    go_ret
    exact ⟨rfl, rfl⟩
  · by_cases b : 65000 < n
    · rw [if_pos (.inr b)]
      go_enter Try.func53, Try.ntmps53
      go_wp2
      go_ret
      exact ⟨rfl, rfl⟩
    · rw [if_neg (by omega)]
      go_enter Try.func53, Try.ntmps53
      go_wp2
      go_loop [0, 3] (fun t k => ∃ j : Nat, t = .int .i64 (n - 112 * j) ∧ k = .int .i64 (1 + j) ∧ -112 < n - 112 * j) (fun t _ => (intOf t + 112).toNat)
      case atStart => exact ⟨0, val_int (by omega), val_int (by omega), by omega⟩
      case round =>
        obtain ⟨j, rfl, rfl, hj⟩ := hrel
        by_cases hlt : 0 < n - 112 * (j : Int)
        · go_wp2
          go_round
          case rel => exact ⟨j + 1, val_int (by omega), val_int (by omega), by omega⟩
          case measure => simp [intOf]; omega
        · go_wp2
          go_ret
          exact ⟨ret_int (by omega), rfl⟩

set_option maxRecDepth 100000 in
theorem f16_any (p q : Prt) (A B : Option Addr) (n m c d : Nat) (w : World) (hn : p.data.length = n) (hm : q.data.length = m) (hx : Octs w A p.data) (hy : Octs w B q.data) :
    Calls Try.prog 16 #[prtV p A n c, prtV q B m d] w fun e w' => e = .returned (.bool (decide (p = q))) ∧ Ext w w' := by
  obtain ⟨pf, pe, pn, pi, pd⟩ := p
  obtain ⟨qf, qe, qn, qi, qd⟩ := q
  by_cases h : ¬ pf = qf
  · skip
    rw [decide_eq_false (fun e => h (by injection e))]
    have g : (pf == qf) = false := beq_eq_false_iff_ne.2 h
    clear h hn hm hx hy
    go_enter Try.func16, Try.ntmps16
    go_wp2_with fail
    go_ret
    exact ⟨rfl, ((Ext.refl w).alloc _).alloc _⟩
  replace h := Decidable.not_not.1 h
  subst h
  by_cases h : ¬ pe = qe
  · skip
    rw [decide_eq_false (fun e => h (by injection e))]
    have g : (pe == qe) = false := beq_eq_false_iff_ne.2 h
    clear h hn hm hx hy
    go_enter Try.func16, Try.ntmps16
    go_wp2_with fail
    go_ret
    exact ⟨rfl, ((Ext.refl w).alloc _).alloc _⟩
  replace h := Decidable.not_not.1 h
  subst h
  by_cases h : ¬ pn = qn
  · skip
    rw [decide_eq_false (fun e => h (by injection e))]
    have g : (pn == qn) = false := beq_eq_false_iff_ne.2 h
    clear h hn hm hx hy
    go_enter Try.func16, Try.ntmps16
    go_wp2_with fail
    go_ret
    exact ⟨rfl, ((Ext.refl w).alloc _).alloc _⟩
  replace h := Decidable.not_not.1 h
  subst h
  by_cases h : ¬ pi = qi
  · skip
    rw [decide_eq_false (fun e => h (by injection e))]
    have g : (pi == qi) = false := beq_eq_false_iff_ne.2 h
    clear h hn hm hx hy
    go_enter Try.func16, Try.ntmps16
    go_wp2_with fail
    go_ret
    exact ⟨rfl, ((Ext.refl w).alloc _).alloc _⟩
  replace h := Decidable.not_not.1 h
  subst h
  have X := ((Ext.refl w).alloc (.cells (prtCells ⟨pf, pe, pn, pi, pd⟩ A n c) 24)).alloc (.cells (prtCells ⟨pf, pe, pn, pi, qd⟩ B m d) 24)
  have k1 := conv_str A pd n c _ hn (hx.ext X)
  have k2 := conv_str B qd m d _ hm (hy.ext X)
  by_cases h : pd = qd
  · have g : (pd == qd) = true := beq_iff_eq.2 h
    rw [decide_eq_true (by rw [h])]
    clear h hn hm hx hy
    go_enter Try.func16, Try.ntmps16
    go_wp2_with fail
    go_ret
    exact ⟨rfl, ((Ext.refl w).alloc _).alloc _⟩
  · have g : (pd == qd) = false := beq_eq_false_iff_ne.2 h
    rw [decide_eq_false (fun e => h (by injection e))]
    clear h hn hm hx hy
    go_enter Try.func16, Try.ntmps16
    go_wp2_with fail
    go_ret
    exact ⟨rfl, ((Ext.refl w).alloc _).alloc _⟩
end Go.Proofs.Ytanmjmeabcloiaa
