/- The document's integers, bit by bit (layer 1): the walks. -/
import Derived.Test.YtanmjmeabcloiaaBi
import Derived.Test.YtanmjmeabcloiaaRf
namespace Go.Proofs.Ytanmjmeabcloiaa
open Go.RowKit
open Go.Proofs

theorem f82_any (n lim : Int) (w : World) (hl : 0 ≤ lim) : Calls Try.prog 61 #[.int .i64 n, .int .i64 lim] w fun e w' => e = .returned (.int .i64 (min (max n 0) lim)) ∧ w = w' := by
  by_cases a : n < 0
  · go_enter Try.func61, Try.ntmps61
    go_wp2
    go_ret
    exact ⟨ret_int (by omega), rfl⟩
  · by_cases b : lim < n
    all_goals
      go_enter Try.func61, Try.ntmps61
      go_wp2
      go_ret
      exact ⟨ret_int (by omega), rfl⟩

set_option maxRecDepth 100000 in
theorem f83_any (n : Int) (k : Nat) (hk : k ≤ 64) (w : World) : Calls Try.prog 59 #[.int .i64 n, .int .i64 k] w fun e w' => e = .returned (.int .i64 ((bitv (u64of n) k : Nat) : Int)) ∧ w = w' := by
  have hu : IntKind.u64.wrap n = ((u64of n : Nat) : Int) := by
    unfold u64of
    rw [IntKind.wrap_u64]
    omega
  have hb : u64of n < 18446744073709551616 := by unfold u64of; omega
  obtain ⟨N, hN⟩ : ∃ N, N = u64of n := ⟨_, rfl⟩
  rw [← hN] at hu hb ⊢
  clear hN
  go_enter Try.func59, Try.ntmps59
  go_wp2_with fail
  go_loop [1, 5] (fun i u => ∃ j : Nat, j ≤ k ∧ i = .int .i64 ((k - j : Nat) : Int) ∧ u = .int .u64 ((N / 2 ^ j : Nat) : Int)) (fun i _ => (intOf i).toNat)
  case atStart => exact ⟨0, by omega, rfl, by simp⟩
  case round =>
    obtain ⟨j, hj, rfl, rfl⟩ := hrel
    have hle : N / 2 ^ j ≤ N := Nat.div_le_self _ _
    have hnx : N / 2 ^ (j + 1) = N / 2 ^ j / 2 := by rw [Nat.pow_succ, Nat.div_div_eq_div_mul]
    have hbv : bitv N j = N / 2 ^ j % 2 := rfl
    generalize N / 2 ^ j = x at *
    by_cases hlt : j < k
    · have hpos : (0 : Int) < ((k - j : Nat) : Int) := by omega
      go_wp2_with fail
      go_round
      case rel => exact ⟨j + 1, by omega, by go_num, by rw [hnx]; go_num⟩
      case measure => simp [intOf]; omega
    · obtain rfl : j = k := by omega
      rw [Nat.sub_self]
      go_wp2_with fail
      go_ret
      exact ⟨ret_int (by go_num), rfl⟩

/-- The bits as a list. -/
def bitsL (g : Nat → Nat) (n : Nat) : List Int := (List.range n).map fun i => ((g i : Nat) : Int)
theorem length_bitsL (g : Nat → Nat) (n : Nat) : (bitsL g n).length = n := by simp [bitsL]
theorem bitsL_succ (g : Nat → Nat) (n : Nat) : bitsL g (n + 1) = bitsL g n ++ [((g n : Nat) : Int)] := by simp [bitsL, List.range_succ]
theorem bitsL_get (g : Nat → Nat) (n j : Nat) (h : j < n) : (ints (bitsL g n))[j]? = some (.int .i64 ((g j : Nat) : Int)) := by
  rw [ints_get _ j (by rw [length_bitsL]; exact h)]
  simp [bitsL]

set_option maxRecDepth 100000 in
theorem f84_any (g : Nat → Nat) (hg : ∀ i, g i < 2) (A : Option Addr) (n c : Nat) (w : World) (hn : n ≤ 64) (hx : Cells w A (ints (bitsL g n))) :
    Calls Try.prog 60 #[.slice A n c] w fun e w' => e = .returned (.int .i64 (i64of (sufF g 0 n))) ∧ w = w' := by
  have HB := Lib.hid hg
  clear hg
  go_enter Try.func60, Try.ntmps60
  go_wp2_with fail
  go_loop [3, 4] (fun u i => ∃ j : Nat, j ≤ n ∧ i = .int .i64 ((j : Int) - 1) ∧ u = .int .u64 ((sufF g j (n - j) : Nat) : Int)) (fun _ i => (intOf i + 1).toNat)
  case atStart => exact ⟨n, by omega, rfl, by simp [sufF]⟩
  case round =>
    obtain ⟨j, hj, rfl, rfl⟩ := hrel
    by_cases h0 : 0 < j
    · obtain ⟨i, rfl⟩ : ∃ i, j = i + 1 := ⟨j - 1, by omega⟩
      obtain ⟨b, o, rfl, hcell⟩ := hx.at_ (k := i) (bitsL_get g n i (by omega))
      have hnx : sufF g i (n - i) = g i + 2 * sufF g (i + 1) (n - (i + 1)) := by rw [show n - i = n - (i + 1) + 1 by omega, sufF]
      have hlt := sufF_lt g HB.out (n - (i + 1)) (i + 1)
      have hpw : (2 : Nat) ^ (n - (i + 1)) ≤ 2 ^ 63 := Nat.pow_le_pow_right (by decide) (by omega)
      have h63 : (2 : Nat) ^ 63 = 9223372036854775808 := by decide
      have hgi := HB.out i
      have hsl : sufF g (i + 1) (n - (i + 1)) < 9223372036854775808 := by omega
      clear hlt hpw h63
      generalize sufF g (i + 1) (n - (i + 1)) = s at *
      generalize hq : g i = q at *
      have HNX := Lib.hid hnx
      have HQ := Lib.hid hq
      clear hnx hq
      have hij : ((i + 1 : Nat) : Int) - 1 = (i : Int) := by omega
      rw [hij]
      go_wp2_with fail
      go_round
      case rel => exact ⟨i, by omega, by go_num, by rw [HNX.out]; exact val_int (by omega)⟩
      case measure => simp [intOf]
    · obtain rfl : j = 0 := by omega
      go_wp2_with fail
      go_ret
      exact ⟨rfl, rfl⟩

theorem within_in (n : Nat) (lim : Int) (w : World) (h : (n : Int) ≤ lim) : Calls Try.prog 61 #[.int .i64 n, .int .i64 lim] w fun e w' => e = .returned (.int .i64 (n : Int)) ∧ w = w' :=
  (f82_any n lim w (by omega)).mono fun e w' ⟨he, hw⟩ => ⟨he.trans (ret_int (by omega)), hw⟩

theorem bitS_next (N k i : Nat) (h : k ≤ i) : bitS N k i = if i = 0 then 0 else bitS N k (i - 1) := by
  unfold bitS
  rw [if_neg (by omega)]
  by_cases h0 : i = 0
  · rw [if_pos h0, if_pos (by omega)]
  · rw [if_neg h0]
    by_cases h1 : i - 1 < k
    · rw [if_pos h1, if_neg (by omega), show i - 1 = k - 1 by omega]
    · rw [if_neg h1]

theorem octet_of (N i : Nat) : octs [UInt8.ofNat (N / 256 ^ i)] = [.int .u8 ((sufF (bitv N) (8 * i) 8 : Nat) : Int)] := by
  rw [sufF_bits, Nat.pow_mul]
  simp only [octs, List.map_cons, List.map_nil, oct, UInt8.toNat_ofNat']

set_option maxRecDepth 100000 in
theorem f79_any (n size : Int) (w : World) :
    Calls Try.prog 46 #[.int .i64 n, .int .i64 size] w fun e w' => ∃ v, e = .returned v ∧ Own w' w.heap.size 5 v (octs (leN (wid size) (u64of n))) ∧ Ext w w' := by
  obtain ⟨i0, hi, hz, hs, hb⟩ := info_parts info5
  have hk := wid_le size
  have hr := wid_eq size
  have HW := fun W => f82_any size 8 W (by decide)
  rw [hr] at HW
  generalize wid size = k at hk HW
  clear hr
  go_enter Try.func46, Try.ntmps46
  go_wp2_with fail
  go_loopg [5, 6, 7, 8] k (fun g v i _ _ wr => ∃ j : Nat, j ≤ k ∧ k - j ≤ g ∧ i = .int .i64 j ∧ Own wr w.heap.size 5 v (octs (leN j (u64of n))) ∧ Ext w wr)
  case atStart => exact ⟨0, by omega, by omega, rfl, Own.nil _ _ _, Ext.refl _⟩
  case round =>
    obtain ⟨j, hj, hg, rfl, hown, hext⟩ := hrel
    have hsz := hext.size
    by_cases hlt : j < k
    · have hji : (j : Int) < (k : Int) := by omega
      go_wp2_with (first
        | (go_at_call 61; refine (HW _).mono ?_; rintro e w' ⟨rfl, rfl⟩))
      go_loopg [7, 8] 8 (fun g v i wr' => ∃ q s : Nat, q ≤ 8 ∧ 8 - q ≤ g ∧ i = .int .i64 (7 - (q : Int)) ∧ v = .int .i64 (s : Int) ∧ Hid (s = sufF (bitv (u64of n)) (8 * j + 8 - q) q) ∧ wr' = wr)
      case atStart => exact ⟨0, 0, by omega, by omega, rfl, rfl, rfl, rfl⟩
      case round =>
        obtain ⟨q, s, hq, hg2, rfl, rfl, hs', rfl⟩ := hrel
        by_cases hq8 : q < 8
        · have hsl := sufF_lt (bitv (u64of n)) (bitv_lt _) q (8 * j + 8 - q)
          rw [← hs'.out] at hsl
          have hp : (2 : Nat) ^ q ≤ 2 ^ 8 := Nat.pow_le_pow_right (by decide) hq
          have hs256 : s ≤ 256 := by omega
          have hnx : bitv (u64of n) (8 * j + 7 - q) + 2 * s = sufF (bitv (u64of n)) (8 * j + 8 - (q + 1)) (q + 1) := by
            rw [hs'.out, sufF, show 8 * j + 8 - (q + 1) + 1 = 8 * j + 8 - q by omega, show 8 * j + 8 - (q + 1) = 8 * j + 7 - q by omega]
          have HNX := Lib.hid hnx
          have HBT := fun W => f83_any n (8 * j + 7 - q) (by omega) W
          have hb2 := bitv_lt (u64of n) (8 * j + 7 - q)
          have ha : 8 * (j : Int) + (7 - (q : Int)) = ((8 * j + 7 - q : Nat) : Int) := by omega
          generalize bitv (u64of n) (8 * j + 7 - q) = x at HBT hb2 HNX
          generalize 8 * j + 7 - q = y at ha HBT
          clear hsl hp hnx
          go_wp2_with (first
            | (go_at_call 59; refine (HBT _).mono ?_; rintro e w' ⟨rfl, rfl⟩))
          go_roundg (8 - (q + 1))
          case measure => omega
          case rel => exact ⟨q + 1, x + 2 * s, by omega, by omega, by go_num, val_int (by omega), HNX.out, rfl⟩
        · obtain rfl : q = 8 := by omega
          rw [Nat.add_sub_cancel] at hs'
          have hsl := sufF_lt (bitv (u64of n)) (bitv_lt _) 8 (8 * j)
          rw [← hs'.out] at hsl
          have hoct := octet_of (u64of n) j
          rw [← hs'.out] at hoct
          have HO := Lib.hid hoct
          clear hoct
          go_wp2_with (first
            | (at_builtin; refine wpList_app rfl (.tmp 28) (.tmp 31) _ rfl w.heap.size 5 i0 (.int .u8 0) 1 Try.underlying22 hi hz hs hb rfl u5 (octs (leN j (u64of n))) rfl (hown.alloc _) (some ⟨wr.heap.size, 0, none⟩) 1 1 [.int .u8 (s : Int)] rfl rfl (Cells.new1 _ _ _) (by simp [Value.oneCell']) (by simp [length_leN]; omega) (by omega) (by simp; omega) ?_))
          intro v' w1 hown1 hg1 _
          have hext1 : Ext w w1 := (hext.alloc _).grown hg1 (fun b hb => (hown.block b hb).1)
          clear hg1
          go_wp2_with fail
          go_roundg (k - (j + 1))
          case measure => omega
          case rel => exact ⟨j + 1, by omega, by omega, by go_num, by rw [leN_succ, octs_append, HO.out]; exact hown1, hext1⟩
    · obtain rfl : j = k := by omega
      go_wp2_with (first
        | (go_at_call 61; refine (HW _).mono ?_; rintro e w' ⟨rfl, rfl⟩))
      go_ret
      exact ⟨_, rfl, hown, hext⟩

set_option maxRecDepth 100000 in
theorem f85_any (A : Option Addr) (l : List UInt8) (n c : Nat) (w : World) (hn : l.length = n) (hl : n ≤ 4294967296) (hx : Octs w A l) :
    Calls Try.prog 45 #[.slice A n c] w fun e w' => e = .returned (.int .i64 (i64of (getN (l.take 8)))) ∧ Ext w w' := by
  obtain ⟨i0, hi0, hz, hs0, hb0⟩ := info_three info3
  have hT : ∀ j (hj : j < (l.take 8).length), (octs l)[j]? = some (.int .u8 (((l.take 8)[j].toNat : Nat) : Int)) := fun j hj => by
    rw [List.length_take] at hj
    rw [octs_get l j (by omega), List.getElem_take]
  have hTl : (l.take 8).length = min 8 n := by rw [List.length_take, hn]
  have hres : sufF (bitv (getN (l.take 8))) 0 (8 * (l.take 8).length) = getN (l.take 8) := by
    rw [sufF_bits, Nat.pow_mul, Nat.pow_zero, Nat.div_one, Nat.mod_eq_of_lt (getN_lt _)]
  have hbo := bit_oct (l.take 8)
  generalize l.take 8 = T at *
  obtain ⟨m, hm⟩ : ∃ m, m = T.length := ⟨_, rfl⟩
  rw [← hm] at hres hTl
  have hm8 : m ≤ 8 := by omega
  have hmn : m ≤ n := by omega
  have hme : m = 8 ∨ m = n := by omega
  rw [← hres]
  have HOF := fun A c W h => f84_any (bitv (getN T)) (bitv_lt _) A (8 * m) c W (by omega) h
  have HM := Lib.hid hm
  have HT := Lib.hid hT
  have HBO := Lib.hid hbo
  clear hres hm hT hbo hTl hn
  go_enter Try.func45, Try.ntmps45
  go_wp2_with fail
  go_loopg [3, 4, 5] m (fun g v i _ wr => ∃ j : Nat, j ≤ m ∧ m - j ≤ g ∧ i = .int .i64 j ∧ Own wr w.heap.size 3 v (ints (bitsL (bitv (getN T)) (8 * j))) ∧ Ext w wr)
  case atStart => exact ⟨0, by omega, by omega, rfl, Own.nil _ _ _, Ext.refl _⟩
  case round =>
    obtain ⟨j, hj, hg, rfl, hown, hext⟩ := hrel
    by_cases hlt : j < m
    · have hji : (j : Int) < (n : Int) := by omega
      have hj8 : (j : Int) < 8 := by omega
      obtain ⟨b, o, rfl, hcell⟩ := Cells.at_ hx (HT.out j (by rw [← HM.out]; exact hlt))
      have hbo := fun k hk => HBO.out j k (by rw [← HM.out]; exact hlt) hk
      generalize T[j]'(by rw [← HM.out]; exact hlt) = y at hcell hbo
      have HBO2 := Lib.hid hbo
      clear hbo
      go_wp2_with fail
      go_loopg [3, 5] 8 (fun g v i wr' => ∃ q : Nat, q ≤ 8 ∧ 8 - q ≤ g ∧ i = .int .i64 q ∧ Own wr' w.heap.size 3 v (ints (bitsL (bitv (getN T)) (8 * j + q))) ∧ Ext w wr')
      case atStart => exact ⟨0, by omega, by omega, rfl, hown, hext⟩
      case round =>
        obtain ⟨q, hq, hg2, rfl, hown2, hext2⟩ := hrel
        have hsz := hext2.size
        by_cases hq8 : q < 8
        · have hcell2 := hext2.cell hcell
          have hy := y.toNat_lt
          have hu : u64of ((y.toNat : Nat) : Int) = y.toNat := by unfold u64of; omega
          have HBT := fun W => f83_any ((y.toNat : Nat) : Int) q (by omega) W
          have hb2 : bitv (u64of ((y.toNat : Nat) : Int)) q = bitv (getN T) (8 * j + q) := by rw [hu, HBO2.out q hq8]; rfl
          rw [hb2] at HBT
          have hjn : (j : Int) < (n : Int) := hji
          have hqi : (q : Int) < 8 := by omega
          clear hu hb2
          go_wp2_with (first
            | (go_at_call 59; refine (HBT _).mono ?_; rintro e w' ⟨rfl, rfl⟩)
            | (at_builtin; refine wpList_app rfl (.tmp 20) (.tmp 28) _ rfl w.heap.size 3 i0 (.int .i64 0) 8 Try.underlying78 hi0 hz hs0 hb0 rfl u3 (ints (bitsL (bitv (getN T)) (8 * j + q))) rfl (hown2.alloc _) (some ⟨wr.heap.size, 0, none⟩) 1 1 [.int .i64 ((bitv (getN T) (8 * j + q) : Nat) : Int)] rfl rfl (Cells.new1 _ _ _) (by simp [Value.oneCell']) (by simp [length_bitsL]; omega) (by omega) (by simp; omega) ?_))
          intro v' w1 hown1 hg1 _
          have hext1 : Ext w w1 := (hext2.alloc _).grown hg1 (fun b hb => (hown2.block b hb).1)
          clear hg1
          go_wp2_with fail
          go_roundg (8 - (q + 1))
          case measure => omega
          case rel => exact ⟨q + 1, by omega, by omega, by go_num, by rw [← Nat.add_assoc, bitsL_succ]; simpa [ints] using hown1, hext1⟩
        · obtain rfl : q = 8 := by omega
          go_wp2_with fail
          go_roundg (m - (j + 1))
          case measure => omega
          case rel => exact ⟨j + 1, by omega, by omega, by go_num, by rw [Nat.mul_add]; exact hown2, hext2⟩
    · obtain rfl : j = m := by omega
      obtain ⟨B, d, rfl, hd, _, hx2, _⟩ := hown.form
      rw [length_ints, length_bitsL] at *
      have HO := HOF B d wr hx2
      by_cases hjn : j < n
      · have hji : (j : Int) < (n : Int) := by omega
        have h8 : ((j : Int) < 8) = False := by simp; omega
        go_wp2_with (first
          | (go_at_call 60; refine HO.mono ?_; rintro e w' ⟨rfl, rfl⟩))
        go_ret
        exact ⟨rfl, hext⟩
      · have hji : ((j : Int) < (n : Int)) = False := by simp; omega
        clear hjn
        go_wp2_with (first
          | (go_at_call 60; refine HO.mono ?_; rintro e w' ⟨rfl, rfl⟩))
        go_ret
        exact ⟨rfl, hext⟩
end Go.Proofs.Ytanmjmeabcloiaa
