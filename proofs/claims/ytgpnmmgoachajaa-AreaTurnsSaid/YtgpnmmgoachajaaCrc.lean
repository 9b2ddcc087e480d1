/- The check sum's functions (layer 2): the step, the table of nibbles, taking octets, Sum, Add. -/
import Derived.Test.YtgpnmmgoachajaaInts
import Derived.Test.YtgpnmmgoachajaaCrcMath
import Derived.Deep.QuietTactic
import Derived.BigQuiet
import Derived.Deep.RegionWith
namespace Go.Proofs.Ytgpnmmgoachajaa
open Go.RowKit
open Go.Proofs

theorem step_u32 (u : Nat) (h : u < 4294967296) : bits .xor .u32 ((u : Int) / 2) (bits .and .u32 3988292384 (-bits .and .u32 (u : Int) 1 % 4294967296)) = ((Mb.step1 u : Nat) : Int) := by
  have h1 : bits .and .u32 (u : Int) 1 = ((u % 2 : Nat) : Int) := by
    have := u32_and_nat u 1 h (by omega)
    rw [show ((1 : Nat) : Int) = 1 from rfl] at this
    rw [this, Nat.and_one_is_mod]
  have h2 : (u : Int) / 2 = ((u / 2 : Nat) : Int) := by omega
  rw [h1, h2]
  unfold Mb.step1
  rw [Nat.shiftRight_eq_div_pow]
  by_cases ho : u % 2 = 1
  · rw [if_pos ho, ho]
    have h3 : -((1 : Nat) : Int) % 4294967296 = ((4294967295 : Nat) : Int) := by decide
    have h4 := u32_and_nat 3988292384 4294967295 (by omega) (by omega)
    rw [h3, show (3988292384 : Int) = ((3988292384 : Nat) : Int) from rfl, h4, u32_xor_nat _ _ (by omega) (by decide)]
    rfl
  · rw [if_neg ho, show u % 2 = 0 by omega]
    have h3 : -((0 : Nat) : Int) % 4294967296 = ((0 : Nat) : Int) := by decide
    have h4 := u32_and_nat 3988292384 0 (by omega) (by omega)
    rw [h3, show (3988292384 : Int) = ((3988292384 : Nat) : Int) from rfl, h4, u32_xor_nat _ _ (by omega) (by decide)]
    rfl

set_option maxRecDepth 100000 in
theorem f178_any (c : UInt8) (w : World) : Calls Try.prog 74 #[.int .u8 ((c.toNat : Nat) : Int)] w fun e w' => e = .returned (.int .u32 ((Mb.stepn 8 c.toNat : Nat) : Int)) ∧ w = w' := by
  have hc := c.toNat_lt
  go_enter Try.func74, Try.ntmps74
  go_wp2
  go_loop [3, 6] (fun u i => ∃ j : Nat, j ≤ 8 ∧ i = .int .i64 j ∧ u = .int .u32 ((Mb.stepn j c.toNat : Nat) : Int)) (fun _ i => 8 - (intOf i).toNat)
  case atStart => 
    exact ⟨0, by omega, rfl, rfl⟩
  case round =>
    obtain ⟨j, hj, rfl, rfl⟩ := hrel
    by_cases hlt : j < 8
    · go_wp2
      go_round
      case rel => exact ⟨j + 1, by omega, by go_num, by rw [step_u32 _ (Mb.stepn_lt j (by omega)), Mb.stepn_succ']⟩
      case measure => simp [intOf]; omega
    · go_wp2
      go_ret
      obtain rfl : j = 8 := by omega
      exact ⟨rfl, rfl⟩

theorem f178_int (n : Int) (w : World) (h0 : 0 ≤ n) (h1 : n < 256) : Calls Try.prog 74 #[.int .u8 n] w fun e w' => e = .returned (.int .u32 ((Mb.stepn 8 n.toNat : Nat) : Int)) ∧ w = w' := by
  obtain ⟨k, rfl⟩ := Int.eq_ofNat_of_zero_le h0
  have := f178_any (UInt8.ofNat k) w
  rw [UInt8.toNat_ofNat', Nat.mod_eq_of_lt (by omega)] at this
  exact this

/-- The table in a block of its own: sixteen low entries, sixteen high ones. -/
def Table (w : World) (g : Nat) (k : Nat) : Prop :=
  ∃ cur : Array Value, w.heap[g]? = some (.cells cur 126 (0, 0)) ∧ cur.size = 32 ∧
    ∀ i, i < k → cur[i]? = some (.int .u32 ((Mb.stepn 8 i : Nat) : Int)) ∧ cur[16 + i]? = some (.int .u32 ((Mb.stepn 8 (i * 16) : Nat) : Int))

theorem Table.step {w : World} {g j : Nat} {cur : Array Value} (hg : w.heap[g]? = some (.cells cur 126 (0, 0))) (hsz : cur.size = 32)
    (htab : ∀ i, i < j → cur[i]? = some (.int .u32 ((Mb.stepn 8 i : Nat) : Int)) ∧ cur[16 + i]? = some (.int .u32 ((Mb.stepn 8 (i * 16) : Nat) : Int))) (hj : j < 16) :
    Table ((w.setCell ⟨g, j, none⟩ (.int .u32 ((Mb.stepn 8 j : Nat) : Int))).setCell ⟨g, 16 + j, none⟩ (.int .u32 ((Mb.stepn 8 (j * 16) : Nat) : Int))).drew g (j + 1) := by
  refine ⟨_, heap_setCell_same _ _ _ _ _ _ (heap_setCell_same w g j cur _ _ hg), by simpa using hsz, fun i hi => ?_⟩
  rw [Array.getElem?_setIfInBounds, Array.getElem?_setIfInBounds, Array.getElem?_setIfInBounds, Array.getElem?_setIfInBounds]
  by_cases e : i = j
  · subst e
    rw [if_neg (by omega), if_pos rfl, if_pos (by omega), if_pos rfl, if_pos (by simp; omega)]
    exact ⟨rfl, rfl⟩
  · rw [if_neg (by omega), if_neg (by omega), if_neg (by omega), if_neg (by omega)]
    exact htab i (by omega)

set_option maxRecDepth 100000 in
theorem f128_any (w : World) : Calls Try.prog 65 #[] w fun e w' => e = .returned (.pointer (some ⟨w.heap.size, 0, none⟩)) ∧ Table w' w.heap.size 16 ∧ Ext w w' := by
  go_enter Try.func65, Try.ntmps65
  go_wp2_with fail
  go_loopw [5] (fun i wr => ∃ j : Nat, j ≤ 16 ∧ i = .int .i64 j ∧ Table wr w.heap.size j ∧ Ext w wr) (fun i _ => 16 - (intOf i).toNat)
  case atStart => exact ⟨0, by omega, rfl, ⟨_, heap_alloc_new w _, rfl, fun i hi => by omega⟩, (Ext.refl w).alloc _⟩
  case round =>
    obtain ⟨j, hj, rfl, ⟨cur, hg, hsz, htab⟩, hext⟩ := hrel
    by_cases hlt : j < 16
    · have c1 : wr.cell? ⟨w.heap.size, j, none⟩ = some cur[j] := by rw [cell_of_row wr _ _ _ _ _ hg]; simp
      have c2 : wr.cell? ⟨w.heap.size, 16 + j, none⟩ = some cur[16 + j] := by rw [cell_of_row wr _ _ _ _ _ hg]; simp
      have fr : ∀ k, wr.frozen? ⟨w.heap.size, k, none⟩ = false := fun k => frozen_of_row wr _ _ _ _ hg
      have e1 : IntKind.u8.wrap (j : Int) = (j : Int) := by rw [IntKind.wrap_u8]; omega
      have e2 : IntKind.i64.wrap ((j : Int) * 16) = (j : Int) * 16 := IntWalk.i64_in _ (by omega)
      have e3 : IntKind.u8.wrap ((j : Int) * 16) = (j : Int) * 16 := by rw [IntKind.wrap_u8]; omega
      have b1 : (0 : Int) ≤ j := by omega
      have b2 : (j : Int) < 16 := by omega
      go_wp2_with fail
      go_region_with (go_at_call 74; refine (f178_int _ _ (by omega) (by omega)).mono ?_; rintro e w' ⟨rfl, rfl⟩)
      go_wp2
      go_roundw
      case rel => exact ⟨j + 1, by omega, by go_num, Table.step hg hsz htab hlt, ((hext.setCell (Nat.le_refl _) _).setCell (Nat.le_refl _) _).drew⟩
      case measure => simp [intOf]; omega
    · go_wp2
      go_ret
      obtain rfl : j = 16 := by omega
      exact ⟨rfl, ⟨cur, hg, hsz, htab⟩, hext⟩
end Go.Proofs.Ytgpnmmgoachajaa
