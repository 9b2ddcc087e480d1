/- Superblocks (layer 5): which are right. -/
import Derived.Test.YtanmjmeabcloiaaSup
namespace Go.Proofs.Ytanmjmeabcloiaa
open Go.RowKit
open Go.Proofs

/-- A superblock as a value. -/
abbrev supCells (s : Sup) : Array Value := #[.int .i64 s.gen, .int .i64 s.journal, .int .i64 s.area, .int .i64 s.which, .int .i64 s.len, .int .u32 (s.sum : Int), .int .i64 s.epoch, .int .i64 s.start]
abbrev supV (s : Sup) : Value := .agg (supCells s)

set_option maxRecDepth 100000 in
theorem f21_any (s : Sup) (w : World) : Calls Try.prog 21 #[supV s] w fun e w' => e = .returned (.bool (decide (supRight s))) ∧ Ext w w' := by
  obtain ⟨gen, journal, area, which, len, sum, epoch, start⟩ := s
  obtain ⟨R, hR⟩ : ∃ R, R = decide (supRight ⟨gen, journal, area, which, len, sum, epoch, start⟩) := ⟨_, rfl⟩
  rw [← hR]
  have HR := Lib.hid hR
  clear hR
  go_enter Try.func21, Try.ntmps21
  go_wp2
  all_goals go_ret
  all_goals
    refine ⟨ret_bool ?_, (Ext.refl w).alloc _⟩
    rw [HR.out]
    refine Eq.symm ?_
    unfold supRight
    first
      | (refine decide_eq_false ?_; simp only; omega)
      | (refine decide_eq_true ?_; simp only; omega)
      | (refine decide_eq_decide.2 ?_; simp only; omega)

set_option maxRecDepth 100000 in
theorem f48_any (n lo hi : Int) (w : World) : Calls Try.prog 48 #[.int .i64 n, .int .i64 lo, .int .i64 hi] w fun e w' => e = .returned (.bool (decide (lo ≤ n ∧ n ≤ hi))) ∧ w = w' := by
  by_cases a : lo ≤ n
  · go_enter Try.func48, Try.ntmps48
    go_wp2
    go_ret
    exact ⟨ret_bool (by simp [a]), rfl⟩
  · have a' : (lo ≤ n) = False := eq_false a
    go_enter Try.func48, Try.ntmps48
    go_wp2
    go_ret
    exact ⟨ret_bool (by simp), rfl⟩

set_option maxRecDepth 100000 in
theorem f22_any (s : Sup) (w : World) : Calls Try.prog 22 #[supV s] w fun e w' => e = .returned (.bool (decide (supRight s))) ∧ Ext w w' := by
  obtain ⟨gen, journal, area, which, len, sum, epoch, start⟩ := s
  obtain ⟨R, hR⟩ : ∃ R, R = decide (supRight ⟨gen, journal, area, which, len, sum, epoch, start⟩) := ⟨_, rfl⟩
  rw [← hR]
  have HR := Lib.hid hR
  clear hR
  go_enter Try.func22, Try.ntmps22
  go_wp2_with (go_at_call 48; refine (f48_any _ _ _ _).mono ?_; rintro e w' ⟨rfl, rfl⟩)
  all_goals go_ret
  all_goals
    refine ⟨ret_bool ?_, (Ext.refl w).alloc _⟩
    rw [HR.out]
    refine Eq.symm ?_
    unfold supRight
    first
      | (refine decide_eq_false ?_; simp only; omega)
      | (refine decide_eq_true ?_; simp only; omega)
      | (rw [← Bool.decide_and]; refine decide_eq_decide.2 ?_; simp only; omega)
end Go.Proofs.Ytanmjmeabcloiaa
