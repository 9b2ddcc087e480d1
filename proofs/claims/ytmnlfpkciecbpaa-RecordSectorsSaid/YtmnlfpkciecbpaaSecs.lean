/- How many sectors a transaction has: what 'record.Sectors' and the document's function both compute; for any 64-bit number, in any world, nothing is written. -/
import Derived.Test.YtmnlfpkciecbpaaProg
import Derived.WalkKit
import Derived.WalkSpells
import Derived.WalkLawsBesides
import Derived.Lib.Hide
namespace Go.Proofs.Ytmnlfpkciecbpaa
open Go.RowKit
open Go.Proofs

def secs (n : Int) : Int := if n < 1 ∨ 65000 < n then 0 else (n + 111) / 112 + 1

theorem ret_int {k : IntKind} {a b : Int} (h : a = b) : Ending.returned (.int k a) = .returned (.int k b) := by rw [h]
theorem ret_bool {a b : Bool} (h : a = b) : Ending.returned (.bool a) = .returned (.bool b) := by rw [h]
theorem val_int {k : IntKind} {a b : Int} (h : a = b) : Value.int k a = .int k b := by rw [h]
theorem val_bool {a b : Bool} (h : a = b) : Value.bool a = .bool b := by rw [h]

theorem secs_range (n : Int) : 0 ≤ secs n ∧ secs n ≤ 582 := by unfold secs; split <;> omega
theorem secs_step (n : Int) (h1 : 1 ≤ n) (h2 : n < 65000) : secs n ≤ secs (n + 1) ∧ secs (n + 1) ≤ secs n + 1 := by
  unfold secs
  rw [if_neg (by omega), if_neg (by omega)]
  omega

theorem f38_any (n : Int) (w : World) (h1 : -9223372036854775808 ≤ n) (h2 : n ≤ 9223372036854775807) :
    Calls Try.prog 38 #[.int .i64 n] w fun e w' => e = .returned (.int .i64 (secs n)) ∧ w = w' := by
  unfold secs
  by_cases a : n < 1
  · rw [if_pos (.inl a)]
    go_enter Try.func38, Try.ntmps38
    go_wp2
    go_ret
    exact ⟨rfl, rfl⟩
  · by_cases b : 65000 < n
    · rw [if_pos (.inr b)]
      go_enter Try.func38, Try.ntmps38
      go_wp2
      go_ret
      exact ⟨rfl, rfl⟩
    · rw [if_neg (by omega)]
      go_enter Try.func38, Try.ntmps38
      go_wp2
      go_ret
      exact ⟨ret_int (by omega), rfl⟩

theorem f37_any (w : World) : Calls Try.prog 37 #[] w fun e w' => e = .returned (.bool true) ∧ w = w' := by
  go_enter Try.func37, Try.ntmps37
  go_wp2
  go_ret
  exact ⟨rfl, rfl⟩

theorem f39_any (n : Int) (w : World) (h1 : -9223372036854775808 ≤ n) (h2 : n ≤ 9223372036854775807) :
    Calls Try.prog 39 #[.int .i64 n] w fun e w' => e = .returned (.int .i64 (secs n)) ∧ w = w' := by
  unfold secs
  by_cases a : n < 1
  · rw [if_pos (.inl a)]
    go_enter Try.func39, Try.ntmps39
    go_wp2
    go_ret
    exact ⟨rfl, rfl⟩
  · by_cases b : 65000 < n
    · rw [if_pos (.inr b)]
      go_enter Try.func39, Try.ntmps39
      go_wp2
      go_ret
      exact ⟨rfl, rfl⟩
    · rw [if_neg (by omega)]
      go_enter Try.func39, Try.ntmps39
      go_wp2
      go_loop [0, 3] (fun t k => ∃ j : Nat, t = .int .i64 (n - 112 * j) ∧ k = .int .i64 (1 + j) ∧ -112 < n - 112 * j) (fun t _ => (intOf t + 112).toNat)
      case atStart => exact ⟨0, val_int (by omega), val_int (by omega), by omega⟩
      case round =>
        obtain ⟨j, rfl, rfl, hj⟩ := hrel
        by_cases hlt : 0 < n - 112 * (j : Int)
        · go_wp2
          go_round
          case rel => exact ⟨j + 1, val_int (by omega), val_int (by omega), by omega⟩
          case measure => simp [intOf]; omega
        · go_wp2
          go_ret
          exact ⟨ret_int (by omega), rfl⟩
end Go.Proofs.Ytmnlfpkciecbpaa
