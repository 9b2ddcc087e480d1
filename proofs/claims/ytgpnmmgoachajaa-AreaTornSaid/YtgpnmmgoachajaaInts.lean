/- The integers' octets (layer 1): what 'ints.count', 'ints.Lay' and 'ints.Get' compute. -/
import Derived.Test.YtgpnmmgoachajaaMem
namespace Go.Proofs.Ytgpnmmgoachajaa
open Go.RowKit
open Go.Proofs

theorem f180_any (n lim : Int) (w : World) : Calls Try.prog 80 #[.int .i64 n, .int .i64 lim] w fun e w' => e = .returned (.int .i64 (min (max n 0) lim)) ∧ w = w' := by
  by_cases a : n < 0
  · by_cases b : lim < 0
    all_goals
      go_enter Try.func80, Try.ntmps80
      go_wp2
      go_ret
      exact ⟨ret_int (by omega), rfl⟩
  · by_cases b : lim < n
    all_goals
      go_enter Try.func80, Try.ntmps80
      go_wp2
      go_ret
      exact ⟨ret_int (by omega), rfl⟩

theorem f180_in (n lim : Int) (w : World) (h0 : 0 ≤ n) (h1 : n ≤ lim) : Calls Try.prog 80 #[.int .i64 n, .int .i64 lim] w fun e w' => e = .returned (.int .i64 n) ∧ w = w' :=
  (f180_any n lim w).mono fun e w' ⟨he, hw⟩ => ⟨he.trans (ret_int (by omega)), hw⟩

/-- A number as 64 bits without a sign. -/
def u64of (n : Int) : Nat := (n % 18446744073709551616).toNat

def leN : Nat → Nat → List UInt8
  | 0, _ => []
  | k + 1, u => UInt8.ofNat u :: leN k (u / 256)
theorem length_leN : ∀ k u, (leN k u).length = k
  | 0, _ => rfl
  | k + 1, u => by simp [leN, length_leN k]
theorem leN_succ : ∀ k u, leN (k + 1) u = leN k u ++ [UInt8.ofNat (u / 256 ^ k)]
  | 0, u => by simp [leN]
  | k + 1, u => by
    rw [leN, leN_succ k (u / 256), leN, Nat.div_div_eq_div_mul, Nat.pow_succ, Nat.mul_comm 256]
    rfl

theorem lay_octet (n : Int) (j : Nat) : octs [UInt8.ofNat (u64of n / 256 ^ j)] = [.int .u8 (IntKind.u64.wrap n / 2 ^ (8 * j) % 256)] := by
  have h : (2 : Int) ^ (8 * j) = ((256 ^ j : Nat) : Int) := by rw [Int.pow_mul]; simp
  have h2 : IntKind.u64.wrap n = ((u64of n : Nat) : Int) := by
    unfold u64of
    rw [IntKind.wrap_u64]
    omega
  simp only [octs, List.map_cons, List.map_nil, oct, UInt8.toNat_ofNat', h, h2]
  congr 2

theorem info5 : (Try.prog.info? 5).map (fun i => (i.zero, i.size, i.bytes)) = some (some (.int .u8 0), 1, 1) := by kernel_rfl

set_option maxRecDepth 100000 in
theorem f132_any (n : Int) (k : Nat) (hk : k ≤ 8) (w : World) :
    Calls Try.prog 68 #[.int .i64 n, .int .i64 k] w fun e w' => ∃ v, e = .returned v ∧ Own w' w.heap.size 5 v (octs (leN k (u64of n))) ∧ Ext w w' := by
  obtain ⟨i0, hi, hz, hs, hb⟩ := info_parts info5
  go_enter Try.func68, Try.ntmps68
  go_wp2_with (go_at_call 80; refine (f180_in _ _ _ (by omega) (by omega)).mono ?_; rintro e w' ⟨rfl, rfl⟩)
  go_loopw [5, 9] (fun v i wr => ∃ j : Nat, j ≤ k ∧ i = .int .i64 j ∧ Own wr w.heap.size 5 v (octs (leN j (u64of n))) ∧ Ext w wr) (fun _ i _ => k - (intOf i).toNat)
  case atStart => exact ⟨0, by omega, rfl, Own.nil _ _ _, Ext.refl _⟩
  case round =>
    obtain ⟨j, hj, rfl, hown, hext⟩ := hrel
    by_cases hlt : j < k
    · have hsz := hext.size
      go_wp2_with (at_builtin; refine wpList_app rfl (.tmp 12) (.tmp 19) _ rfl w.heap.size 5 i0 (.int .u8 0) 1 Try.underlying22 hi hz hs hb rfl u5 (octs (leN j (u64of n))) rfl (hown.alloc _) (some ⟨wr.heap.size, 0, none⟩) 1 1 [.int .u8 (IntKind.u64.wrap n / 2 ^ (8 * j) % 256)] rfl rfl (Cells.new1 _ _ _) (by simp [Value.oneCell']) ?_ (by omega) ?_ ?_)
      · simp [length_leN]; omega
      · simp; omega
      intro v' w1 hown1 hg1 _
      have hext1 : Ext w w1 := (hext.alloc _).grown hg1 (fun b hb => (hown.block b hb).1)
      clear hg1
      go_wp2
      go_roundw
      case rel => exact ⟨j + 1, by omega, by go_num, by rw [leN_succ, octs_append, lay_octet]; exact hown1, hext1⟩
      case measure => simp [intOf]; omega
    · go_wp2
      go_ret
      obtain rfl : j = k := by omega
      exact ⟨_, rfl, hown, hext⟩
def getN : List UInt8 → Nat
  | [] => 0
  | c :: l => c.toNat + 256 * getN l
theorem getN_lt : ∀ l, getN l < 256 ^ l.length
  | [] => by simp [getN]
  | c :: l => by
    have := getN_lt l
    have := c.toNat_lt
    simp only [getN, List.length_cons, Nat.pow_succ]
    omega
theorem getN_snoc : ∀ l (c : UInt8), getN (l ++ [c]) = getN l + c.toNat * 256 ^ l.length
  | [], c => by simp [getN]
  | d :: l, c => by
    rw [List.cons_append, getN, getN_snoc l c, getN, List.length_cons, Nat.pow_succ, Nat.mul_add, ← Nat.add_assoc, Nat.mul_left_comm, Nat.mul_comm 256 (256 ^ _)]
theorem getN_take_succ (l : List UInt8) (j : Nat) (h : j < l.length) : getN (l.take (j + 1)) = getN (l.take j) + l[j].toNat * 256 ^ j := by
  rw [List.take_succ_eq_append_getElem h, getN_snoc, List.length_take, Nat.min_eq_left (by omega)]

/-- A number of 64 bits, with its sign. -/
def i64of (n : Nat) : Int := wrap64 (n : Int)

theorem get_octet (l : List UInt8) (j : Nat) (h : j < l.length) (h8 : j < 8) :
    bits .or .u64 ((getN (l.take j) : Nat) : Int) (IntKind.u64.wrap (IntKind.u64.wrap ((l[j].toNat : Nat) : Int) * 2 ^ (8 * j))) = ((getN (l.take (j + 1)) : Nat) : Int) := by
  have h0 := getN_lt (l.take j)
  rw [List.length_take, Nat.min_eq_left (by omega)] at h0
  have hp : (256 : Nat) ^ j = 2 ^ (8 * j) := by rw [Nat.pow_mul]
  have hc := (l[j]).toNat_lt
  have hle : (2 : Nat) ^ (8 * j) * 256 ≤ 2 ^ 64 := by
    have : (2 : Nat) ^ (8 * j) * 256 = 2 ^ (8 * j + 8) := by rw [Nat.pow_add]
    rw [this]; exact Nat.pow_le_pow_right (by omega) (by omega)
  have hx : l[j].toNat * 2 ^ (8 * j) < 18446744073709551616 := by
    have h1 : l[j].toNat * 2 ^ (8 * j) < 256 * 2 ^ (8 * j) := Nat.mul_lt_mul_of_pos_right hc (Nat.two_pow_pos _)
    have h2 : (2 : Nat) ^ 64 = 18446744073709551616 := by decide
    omega
  have h1 : IntKind.u64.wrap (IntKind.u64.wrap ((l[j].toNat : Nat) : Int) * 2 ^ (8 * j)) = ((l[j].toNat * 2 ^ (8 * j) : Nat) : Int) := by
    rw [IntKind.wrap_u64, IntKind.wrap_u64]
    have e1 : ((l[j].toNat : Nat) : Int) % 18446744073709551616 = ((l[j].toNat : Nat) : Int) := by omega
    have e2 : (2 : Int) ^ (8 * j) = ((2 ^ (8 * j) : Nat) : Int) := by simp
    rw [e1, e2, ← Int.natCast_mul]
    omega
  have h2 : getN (l.take j) < 18446744073709551616 := by
    have : (2 : Nat) ^ 64 = 18446744073709551616 := by decide
    have := Nat.two_pow_pos (8 * j)
    omega
  rw [h1, bits_or_u64_nat _ _ h2 hx, getN_take_succ l j h, hp]
  have h3 := Nat.two_pow_add_eq_or_of_lt (i := 8 * j) (b := getN (l.take j)) (by omega) l[j].toNat
  rw [Nat.or_comm, Nat.mul_comm, ← h3]
  congr 1
  rw [Nat.mul_comm]; omega

set_option maxRecDepth 100000 in
theorem f133_any (A : Option Addr) (l : List UInt8) (c : Nat) (w : World) (hl : l.length ≤ 4294967296) (hc : l.length ≤ c) (hx : Octs w A l) :
    Calls Try.prog 73 #[.slice A l.length c] w fun e w' => e = .returned (.int .i64 (i64of (getN (l.take 8)))) ∧ w = w' := by
  obtain ⟨m, hm⟩ : ∃ m, m = min l.length 8 := ⟨_, rfl⟩
  have hm1 : m ≤ l.length := by omega
  have hm2 : m ≤ 8 := by omega
  have hm3 : (m = 8 ∨ m = l.length) := by omega
  have ht : l.take 8 = l.take m := by
    rcases hm3 with rfl | rfl
    · rfl
    · rw [List.take_of_length_le (by omega), List.take_of_length_le (Nat.le_refl _)]
  rw [ht]
  have hr : min (max (l.length : Int) 0) 8 = (m : Int) := by omega
  have Hr := Lib.hid hr
  clear hr ht hm hm3
  go_enter Try.func73, Try.ntmps73
  go_wp2_with (go_at_call 80; refine (f180_any _ _ _).mono ?_; rintro e w' ⟨rfl, rfl⟩; rw [Hr.out])
  go_loop [3, 12] (fun u i => ∃ j : Nat, j ≤ m ∧ i = .int .i64 j ∧ u = .int .u64 ((getN (l.take j) : Nat) : Int)) (fun _ i => m - (intOf i).toNat)
  case atStart => exact ⟨0, by omega, rfl, rfl⟩
  case round =>
    obtain ⟨j, hj, rfl, rfl⟩ := hrel
    by_cases hlt : j < m
    · obtain ⟨b, o, rfl, hcell⟩ := hx.at_ (k := j) (by omega)
      go_wp2
      go_round
      case rel => exact ⟨j + 1, by omega, by go_num, by rw [get_octet l j (by omega) (by omega)]⟩
      case measure => simp [intOf]; omega
    · go_wp2
      go_ret
      obtain rfl : j = m := by omega
      exact ⟨rfl, rfl⟩
end Go.Proofs.Ytgpnmmgoachajaa
